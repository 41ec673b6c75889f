/-
  Compare is an order.
-/
import Derived.Test.YteghhalnpdikoaaDc
set_option linter.unusedVariables false
namespace Go.Proofs.Yteghhalnpdikoaa
open Go.Vc

set_option maxHeartbeats 16000000 in
theorem c_LawOrder17 (v1 v2 v3 : Value) (r1 r2 r3 : List (Int × Int)) (tilt : Int) (w : World) (h1 : Rd w 0 v1 entC r1) (h2 : Rd w 0 v2 entC r2) (h3 : Rd w 0 v3 entC r3) (j1 : InE r1) (j2 : InE r2) (j3 : InE r3) (l1 : r1.length ≤ 9223372036854775807) (l2 : r2.length ≤ 9223372036854775807) (l3 : r3.length ≤ 9223372036854775807) (ht : 0 ≤ tilt ∧ tilt ≤ 18446744073709551615) :
    Calls Try.prog 3 [v1, v2, v3, .int .u64 tilt].toArray w (Ret fun x w' => x = .bool true ∧ Ext w w') := by
  refine calls_go Try.func3 rfl Try.ntmps3 (Nat.le_of_ble_eq_true rfl) ?_
  repeat (first | refine sp ?_ | (refine is_load ?_; refine ld ?_) | (refine is_store ?_; refine sr ?_) | (refine is_alloc ?_; refine al ?_) | (refine is_box ?_; refine bx ?_) | (refine isl_load ?_; refine ldl ?_) | (refine isl_store ?_; refine srl ?_) | (refine isl_alloc ?_; refine all' ?_) | (refine isl_box ?_; refine bxl ?_))
  refine go_call rfl rfl (c_List w v1 r1 60 h1.up j1 l1 (by omega)) ?_
  rintro a1 w1 ⟨a, ra, oa, x1⟩
  repeat (first | refine sp ?_ | (refine is_load ?_; refine ld ?_) | (refine is_store ?_; refine sr ?_) | (refine is_alloc ?_; refine al ?_) | (refine is_box ?_; refine bx ?_) | (refine isl_load ?_; refine ldl ?_) | (refine isl_store ?_; refine srl ?_) | (refine isl_alloc ?_; refine all' ?_) | (refine isl_box ?_; refine bxl ?_))
  refine go_call rfl rfl (c_List w1 v2 r2 60 ((h2.up.ext x1).mono x1.size) j2 l2 (by omega)) ?_
  rintro a2 w2 ⟨b, rb, ob, x2⟩
  have x2' := x1.trans x2
  repeat (first | refine sp ?_ | (refine is_load ?_; refine ld ?_) | (refine is_store ?_; refine sr ?_) | (refine is_alloc ?_; refine al ?_) | (refine is_box ?_; refine bx ?_) | (refine isl_load ?_; refine ldl ?_) | (refine isl_store ?_; refine srl ?_) | (refine isl_alloc ?_; refine all' ?_) | (refine isl_box ?_; refine bxl ?_))
  refine go_call rfl rfl (c_List w2 v3 r3 60 ((h3.up.ext x2').mono x2'.size) j3 l3 (by omega)) ?_
  rintro a3 w3 ⟨c, rc, oc, x3⟩
  have x3' := x2'.trans x3
  replace ra := ((ra.ext x2).mono x2.size |>.ext x3).mono x3.size
  replace rb := (rb.ext x3).mono x3.size
  obtain ⟨sa, ca, rfl, _, _⟩ := id ra
  obtain ⟨sb, cb, rfl, _, _⟩ := id rb
  obtain ⟨sc, cc, rfl, _, _⟩ := id rc
  have la := oa.len
  have lb := ob.len
  have lc := oc.len
  repeat (first | refine sp ?_ | (refine is_load ?_; refine ld ?_) | (refine is_store ?_; refine sr ?_) | (refine is_alloc ?_; refine al ?_) | (refine is_box ?_; refine bx ?_) | (refine isl_load ?_; refine ldl ?_) | (refine isl_store ?_; refine srl ?_) | (refine isl_alloc ?_; refine all' ?_) | (refine isl_box ?_; refine bxl ?_))
  refine go_call rfl rfl (p_New w3 200 (by omega) (by omega)) ?_
  rintro _ w4 ⟨p, q, rfl, ha4, hq4, hx4⟩
  obtain ⟨lo, hlo⟩ : ∃ lo, w3.heap.size = lo := ⟨_, rfl⟩
  rw [hlo] at ha4 hq4 ra rb rc
  repeat (first | refine sp ?_ | (refine is_load ?_; refine ld ?_) | (refine is_store ?_; refine sr ?_) | (refine is_alloc ?_; refine al ?_) | (refine is_box ?_; refine bx ?_) | (refine isl_load ?_; refine ldl ?_) | (refine isl_store ?_; refine srl ?_) | (refine isl_alloc ?_; refine all' ?_) | (refine isl_box ?_; refine bxl ?_))
  refine go_call rfl rfl (c_awake17 w4) ?_
  rintro _ w5 ⟨rfl, hx5⟩
  have x45 := hx4.trans hx5
  have s5 := x45.size
  have t1' := wrap_u64b (tilt + 1)
  have t2' := wrap_u64b (tilt + 2)
  have a5 := ha4.ext hx5
  repeat (first | refine sp ?_ | (refine is_load ?_; refine ld ?_) | (refine is_store ?_; refine sr ?_) | (refine is_alloc ?_; refine al ?_) | (refine is_box ?_; refine bx ?_) | (refine isl_load ?_; refine ldl ?_) | (refine isl_store ?_; refine srl ?_) | (refine isl_alloc ?_; refine all' ?_) | (refine isl_box ?_; refine bxl ?_))
  refine go_call rfl rfl (c_Plant (a.length + 1) a _ tilt w5 lo p q _ (by omega) (by omega) ht a5 rfl (by show 0 + a.length ≤ 200; omega) (by omega) hq4 (ra.ext x45)) ?_
  rintro _ w6 ⟨B6, t1, q6, rfl, a6, p6, hq6, f6⟩
  have c6 : B6.cap = 200 := p6.cap
  have d6 : B6.fresh = 0 + a.length := p6.fresh
  have s6 := f6.size
  repeat (first | refine sp ?_ | (refine is_load ?_; refine ld ?_) | (refine is_store ?_; refine sr ?_) | (refine is_alloc ?_; refine al ?_) | (refine is_box ?_; refine bx ?_) | (refine isl_load ?_; refine ldl ?_) | (refine isl_store ?_; refine srl ?_) | (refine isl_alloc ?_; refine all' ?_) | (refine isl_box ?_; refine bxl ?_))
  refine go_call rfl rfl (c_Plant (b.length + 1) b _ _ w6 lo p q6 _ (by omega) (by omega) t1' a6 p6.rel (by omega) (by omega) hq6 ((rb.ext x45).frL f6)) ?_
  rintro _ w7 ⟨B7, t2, q7, rfl, a7, p7, hq7, f7⟩
  have c7 := p7.cap
  have d7 := p7.fresh
  have s7 := f7.size
  repeat (first | refine sp ?_ | (refine is_load ?_; refine ld ?_) | (refine is_store ?_; refine sr ?_) | (refine is_alloc ?_; refine al ?_) | (refine is_box ?_; refine bx ?_) | (refine isl_load ?_; refine ldl ?_) | (refine isl_store ?_; refine srl ?_) | (refine isl_alloc ?_; refine all' ?_) | (refine isl_box ?_; refine bxl ?_))
  refine go_call rfl rfl (c_Plant (c.length + 1) c _ _ w7 lo p q7 _ (by omega) (by omega) t2' a7 p7.rel (by omega) (by omega) hq7 (((rc.ext x45).frL f6).frL f7)) ?_
  rintro _ w8 ⟨B8, t3, q, rfl, a8, p8, hq8, f8⟩
  have i1 := p8.keep a7.wf (p7.keep a6.wf p6.inA)
  have i2 := p8.keep a7.wf p7.inA
  have i3 := p8.inA
  have e1 := p6.ent
  have e2 := p7.ent
  have e3 := p8.ent
  have z1 : t1.sz ≤ 60 := by rw [← t1.len, e1]; exact la
  have z2 : t2.sz ≤ 60 := by rw [← t2.len, e2]; exact lb
  have z3 : t3.sz ≤ 60 := by rw [← t3.len, e3]; exact lc
  have x8 : Ext w w8 := (x3'.trans x45).trans' (f6.trans (f7.trans f8)) fun x hx e => by have := x3'.size; omega
  have hpl := hq8 p a8.fpp
  have hls := x3'.size
  clear f6 f7 f8 p6 p7 p8 a7 a6 a5 ra rb rc
  repeat (first | refine sp ?_ | (refine is_load ?_; refine ld ?_) | (refine is_store ?_; refine sr ?_) | (refine is_alloc ?_; refine al ?_) | (refine is_box ?_; refine bx ?_) | (refine isl_load ?_; refine ldl ?_) | (refine isl_store ?_; refine srl ?_) | (refine isl_alloc ?_; refine all' ?_) | (refine isl_box ?_; refine bxl ?_))
  refine go_call rfl rfl (q_Compare w8 lo p q B8 t1 t2 a8 i1 i2 (by omega) (by omega)) ?_
  rintro _ w9 ⟨rfl, B9, b9, ⟨n9, m9⟩, f9⟩
  repeat (first | refine sp ?_ | (refine is_load ?_; refine ld ?_) | (refine is_store ?_; refine sr ?_) | (refine is_alloc ?_; refine al ?_) | (refine is_box ?_; refine bx ?_) | (refine isl_load ?_; refine ldl ?_) | (refine isl_store ?_; refine srl ?_) | (refine isl_alloc ?_; refine all' ?_) | (refine isl_box ?_; refine bxl ?_))
  refine go_call rfl rfl (q_Compare w9 lo p q B9 t2 t3 b9 (m9.inA i2) (m9.inA i3) (by omega) (by omega)) ?_
  rintro _ w10 ⟨rfl, B10, b10, ⟨n10, m10⟩, f10⟩
  repeat (first | refine sp ?_ | (refine is_load ?_; refine ld ?_) | (refine is_store ?_; refine sr ?_) | (refine is_alloc ?_; refine al ?_) | (refine is_box ?_; refine bx ?_) | (refine isl_load ?_; refine ldl ?_) | (refine isl_store ?_; refine srl ?_) | (refine isl_alloc ?_; refine all' ?_) | (refine isl_box ?_; refine bxl ?_))
  refine go_call rfl rfl (q_Compare w10 lo p q B10 t1 t3 b10 (m10.inA (m9.inA i1)) (m10.inA (m9.inA i3)) (by omega) (by omega)) ?_
  rintro _ w11 ⟨rfl, C, k8, ⟨n11, m11⟩, f11⟩
  have m8 := (m9.trans m10).trans m11
  replace x8 : Ext w w11 := x8.trans' (f9.trans (f10.trans f11)) fun x hx e => by omega
  clear f9 f10 f11 m9 m10 m11 b9 b10
  have hneg : cmpL b a = -(cmpL a b) := cmp_neg a b
  have hP := cmp_range a b
  have hQ := cmp_range b c
  have hR := cmp_range a c
  have hz := cmp_zero a b
  have hT := cmp_trans a b c
  have hT2 := cmp_trans c b a
  rw [cmp_neg b c, cmp_neg a b, cmp_neg a c] at hT2
  have heq : eqB a b = decide (cmpL a b = 0) := by unfold eqB; exact decide_eq_decide.2 hz.symm
  rw [e1, e2, e3]
  generalize cmpL a b = P at *
  generalize cmpL b c = Q at *
  generalize cmpL a c = R at *
  rcases hP with rfl | rfl | rfl
  · have hneg' : cmpL b a = 1 := hneg.trans (by decide)
    have heq' : eqB a b = false := by rw [heq]; decide
    clear hneg heq hz
    rcases hQ with rfl | rfl | rfl
    · rcases hR with rfl | rfl | rfl
      · skip
        repeat (first | refine sp ?_ | (refine is_load ?_; refine ld ?_) | (refine is_store ?_; refine sr ?_) | (refine is_alloc ?_; refine al ?_) | (refine is_box ?_; refine bx ?_) | (refine isl_load ?_; refine ldl ?_) | (refine isl_store ?_; refine srl ?_) | (refine isl_alloc ?_; refine all' ?_) | (refine isl_box ?_; refine bxl ?_))
        refine go_call rfl rfl (q_Compare _ lo p q C t2 t1 k8 (m8.inA i2) (m8.inA i1) (by omega) (by omega)) ?_
        rintro _ w9 ⟨rfl, C9, k9, ⟨_, m9⟩, f9⟩
        rw [e1, e2, hneg']
        repeat (first | refine sp ?_ | (refine is_load ?_; refine ld ?_) | (refine is_store ?_; refine sr ?_) | (refine is_alloc ?_; refine al ?_) | (refine is_box ?_; refine bx ?_) | (refine isl_load ?_; refine ldl ?_) | (refine isl_store ?_; refine srl ?_) | (refine isl_alloc ?_; refine all' ?_) | (refine isl_box ?_; refine bxl ?_))
        refine go_call rfl rfl (q_Equal _ lo p q C9 t1 t2 k9 (m9.inA (m8.inA i1)) (m9.inA (m8.inA i2)) (by omega) (by omega)) ?_
        rintro _ w10 ⟨rfl, C10, k10, _, f10⟩
        rw [e1, e2, heq']
        repeat (first | refine sp ?_ | (refine is_load ?_; refine ld ?_) | (refine is_store ?_; refine sr ?_) | (refine is_alloc ?_; refine al ?_) | (refine is_box ?_; refine bx ?_) | (refine isl_load ?_; refine ldl ?_) | (refine isl_store ?_; refine srl ?_) | (refine isl_alloc ?_; refine all' ?_) | (refine isl_box ?_; refine bxl ?_))
        exact go_ret1 rfl rfl ⟨_, rfl, rfl, x8.trans' (f9.trans f10) fun x hx e => by omega⟩
      · skip
        repeat (first | refine sp ?_ | (refine is_load ?_; refine ld ?_) | (refine is_store ?_; refine sr ?_) | (refine is_alloc ?_; refine al ?_) | (refine is_box ?_; refine bx ?_) | (refine isl_load ?_; refine ldl ?_) | (refine isl_store ?_; refine srl ?_) | (refine isl_alloc ?_; refine all' ?_) | (refine isl_box ?_; refine bxl ?_))
        refine go_call rfl rfl (q_Compare _ lo p q C t2 t1 k8 (m8.inA i2) (m8.inA i1) (by omega) (by omega)) ?_
        rintro _ w9 ⟨rfl, C9, k9, ⟨_, m9⟩, f9⟩
        rw [e1, e2, hneg']
        repeat (first | refine sp ?_ | (refine is_load ?_; refine ld ?_) | (refine is_store ?_; refine sr ?_) | (refine is_alloc ?_; refine al ?_) | (refine is_box ?_; refine bx ?_) | (refine isl_load ?_; refine ldl ?_) | (refine isl_store ?_; refine srl ?_) | (refine isl_alloc ?_; refine all' ?_) | (refine isl_box ?_; refine bxl ?_))
        refine go_call rfl rfl (q_Equal _ lo p q C9 t1 t2 k9 (m9.inA (m8.inA i1)) (m9.inA (m8.inA i2)) (by omega) (by omega)) ?_
        rintro _ w10 ⟨rfl, C10, k10, _, f10⟩
        rw [e1, e2, heq']
        repeat (first | refine sp ?_ | (refine is_load ?_; refine ld ?_) | (refine is_store ?_; refine sr ?_) | (refine is_alloc ?_; refine al ?_) | (refine is_box ?_; refine bx ?_) | (refine isl_load ?_; refine ldl ?_) | (refine isl_store ?_; refine srl ?_) | (refine isl_alloc ?_; refine all' ?_) | (refine isl_box ?_; refine bxl ?_))
        exact go_ret1 rfl rfl ⟨_, rfl, rfl, x8.trans' (f9.trans f10) fun x hx e => by omega⟩
      · exfalso; simp at hT hT2
    · rcases hR with rfl | rfl | rfl
      · skip
        repeat (first | refine sp ?_ | (refine is_load ?_; refine ld ?_) | (refine is_store ?_; refine sr ?_) | (refine is_alloc ?_; refine al ?_) | (refine is_box ?_; refine bx ?_) | (refine isl_load ?_; refine ldl ?_) | (refine isl_store ?_; refine srl ?_) | (refine isl_alloc ?_; refine all' ?_) | (refine isl_box ?_; refine bxl ?_))
        refine go_call rfl rfl (q_Compare _ lo p q C t2 t1 k8 (m8.inA i2) (m8.inA i1) (by omega) (by omega)) ?_
        rintro _ w9 ⟨rfl, C9, k9, ⟨_, m9⟩, f9⟩
        rw [e1, e2, hneg']
        repeat (first | refine sp ?_ | (refine is_load ?_; refine ld ?_) | (refine is_store ?_; refine sr ?_) | (refine is_alloc ?_; refine al ?_) | (refine is_box ?_; refine bx ?_) | (refine isl_load ?_; refine ldl ?_) | (refine isl_store ?_; refine srl ?_) | (refine isl_alloc ?_; refine all' ?_) | (refine isl_box ?_; refine bxl ?_))
        refine go_call rfl rfl (q_Equal _ lo p q C9 t1 t2 k9 (m9.inA (m8.inA i1)) (m9.inA (m8.inA i2)) (by omega) (by omega)) ?_
        rintro _ w10 ⟨rfl, C10, k10, _, f10⟩
        rw [e1, e2, heq']
        repeat (first | refine sp ?_ | (refine is_load ?_; refine ld ?_) | (refine is_store ?_; refine sr ?_) | (refine is_alloc ?_; refine al ?_) | (refine is_box ?_; refine bx ?_) | (refine isl_load ?_; refine ldl ?_) | (refine isl_store ?_; refine srl ?_) | (refine isl_alloc ?_; refine all' ?_) | (refine isl_box ?_; refine bxl ?_))
        exact go_ret1 rfl rfl ⟨_, rfl, rfl, x8.trans' (f9.trans f10) fun x hx e => by omega⟩
      · skip
        repeat (first | refine sp ?_ | (refine is_load ?_; refine ld ?_) | (refine is_store ?_; refine sr ?_) | (refine is_alloc ?_; refine al ?_) | (refine is_box ?_; refine bx ?_) | (refine isl_load ?_; refine ldl ?_) | (refine isl_store ?_; refine srl ?_) | (refine isl_alloc ?_; refine all' ?_) | (refine isl_box ?_; refine bxl ?_))
        refine go_call rfl rfl (q_Compare _ lo p q C t2 t1 k8 (m8.inA i2) (m8.inA i1) (by omega) (by omega)) ?_
        rintro _ w9 ⟨rfl, C9, k9, ⟨_, m9⟩, f9⟩
        rw [e1, e2, hneg']
        repeat (first | refine sp ?_ | (refine is_load ?_; refine ld ?_) | (refine is_store ?_; refine sr ?_) | (refine is_alloc ?_; refine al ?_) | (refine is_box ?_; refine bx ?_) | (refine isl_load ?_; refine ldl ?_) | (refine isl_store ?_; refine srl ?_) | (refine isl_alloc ?_; refine all' ?_) | (refine isl_box ?_; refine bxl ?_))
        refine go_call rfl rfl (q_Equal _ lo p q C9 t1 t2 k9 (m9.inA (m8.inA i1)) (m9.inA (m8.inA i2)) (by omega) (by omega)) ?_
        rintro _ w10 ⟨rfl, C10, k10, _, f10⟩
        rw [e1, e2, heq']
        repeat (first | refine sp ?_ | (refine is_load ?_; refine ld ?_) | (refine is_store ?_; refine sr ?_) | (refine is_alloc ?_; refine al ?_) | (refine is_box ?_; refine bx ?_) | (refine isl_load ?_; refine ldl ?_) | (refine isl_store ?_; refine srl ?_) | (refine isl_alloc ?_; refine all' ?_) | (refine isl_box ?_; refine bxl ?_))
        exact go_ret1 rfl rfl ⟨_, rfl, rfl, x8.trans' (f9.trans f10) fun x hx e => by omega⟩
      · exfalso; simp at hT hT2
    · rcases hR with rfl | rfl | rfl
      · skip
        repeat (first | refine sp ?_ | (refine is_load ?_; refine ld ?_) | (refine is_store ?_; refine sr ?_) | (refine is_alloc ?_; refine al ?_) | (refine is_box ?_; refine bx ?_) | (refine isl_load ?_; refine ldl ?_) | (refine isl_store ?_; refine srl ?_) | (refine isl_alloc ?_; refine all' ?_) | (refine isl_box ?_; refine bxl ?_))
        refine go_call rfl rfl (q_Compare _ lo p q C t2 t1 k8 (m8.inA i2) (m8.inA i1) (by omega) (by omega)) ?_
        rintro _ w9 ⟨rfl, C9, k9, ⟨_, m9⟩, f9⟩
        rw [e1, e2, hneg']
        repeat (first | refine sp ?_ | (refine is_load ?_; refine ld ?_) | (refine is_store ?_; refine sr ?_) | (refine is_alloc ?_; refine al ?_) | (refine is_box ?_; refine bx ?_) | (refine isl_load ?_; refine ldl ?_) | (refine isl_store ?_; refine srl ?_) | (refine isl_alloc ?_; refine all' ?_) | (refine isl_box ?_; refine bxl ?_))
        refine go_call rfl rfl (q_Equal _ lo p q C9 t1 t2 k9 (m9.inA (m8.inA i1)) (m9.inA (m8.inA i2)) (by omega) (by omega)) ?_
        rintro _ w10 ⟨rfl, C10, k10, _, f10⟩
        rw [e1, e2, heq']
        repeat (first | refine sp ?_ | (refine is_load ?_; refine ld ?_) | (refine is_store ?_; refine sr ?_) | (refine is_alloc ?_; refine al ?_) | (refine is_box ?_; refine bx ?_) | (refine isl_load ?_; refine ldl ?_) | (refine isl_store ?_; refine srl ?_) | (refine isl_alloc ?_; refine all' ?_) | (refine isl_box ?_; refine bxl ?_))
        exact go_ret1 rfl rfl ⟨_, rfl, rfl, x8.trans' (f9.trans f10) fun x hx e => by omega⟩
      · skip
        repeat (first | refine sp ?_ | (refine is_load ?_; refine ld ?_) | (refine is_store ?_; refine sr ?_) | (refine is_alloc ?_; refine al ?_) | (refine is_box ?_; refine bx ?_) | (refine isl_load ?_; refine ldl ?_) | (refine isl_store ?_; refine srl ?_) | (refine isl_alloc ?_; refine all' ?_) | (refine isl_box ?_; refine bxl ?_))
        refine go_call rfl rfl (q_Compare _ lo p q C t2 t1 k8 (m8.inA i2) (m8.inA i1) (by omega) (by omega)) ?_
        rintro _ w9 ⟨rfl, C9, k9, ⟨_, m9⟩, f9⟩
        rw [e1, e2, hneg']
        repeat (first | refine sp ?_ | (refine is_load ?_; refine ld ?_) | (refine is_store ?_; refine sr ?_) | (refine is_alloc ?_; refine al ?_) | (refine is_box ?_; refine bx ?_) | (refine isl_load ?_; refine ldl ?_) | (refine isl_store ?_; refine srl ?_) | (refine isl_alloc ?_; refine all' ?_) | (refine isl_box ?_; refine bxl ?_))
        refine go_call rfl rfl (q_Equal _ lo p q C9 t1 t2 k9 (m9.inA (m8.inA i1)) (m9.inA (m8.inA i2)) (by omega) (by omega)) ?_
        rintro _ w10 ⟨rfl, C10, k10, _, f10⟩
        rw [e1, e2, heq']
        repeat (first | refine sp ?_ | (refine is_load ?_; refine ld ?_) | (refine is_store ?_; refine sr ?_) | (refine is_alloc ?_; refine al ?_) | (refine is_box ?_; refine bx ?_) | (refine isl_load ?_; refine ldl ?_) | (refine isl_store ?_; refine srl ?_) | (refine isl_alloc ?_; refine all' ?_) | (refine isl_box ?_; refine bxl ?_))
        exact go_ret1 rfl rfl ⟨_, rfl, rfl, x8.trans' (f9.trans f10) fun x hx e => by omega⟩
      · skip
        repeat (first | refine sp ?_ | (refine is_load ?_; refine ld ?_) | (refine is_store ?_; refine sr ?_) | (refine is_alloc ?_; refine al ?_) | (refine is_box ?_; refine bx ?_) | (refine isl_load ?_; refine ldl ?_) | (refine isl_store ?_; refine srl ?_) | (refine isl_alloc ?_; refine all' ?_) | (refine isl_box ?_; refine bxl ?_))
        refine go_call rfl rfl (q_Compare _ lo p q C t2 t1 k8 (m8.inA i2) (m8.inA i1) (by omega) (by omega)) ?_
        rintro _ w9 ⟨rfl, C9, k9, ⟨_, m9⟩, f9⟩
        rw [e1, e2, hneg']
        repeat (first | refine sp ?_ | (refine is_load ?_; refine ld ?_) | (refine is_store ?_; refine sr ?_) | (refine is_alloc ?_; refine al ?_) | (refine is_box ?_; refine bx ?_) | (refine isl_load ?_; refine ldl ?_) | (refine isl_store ?_; refine srl ?_) | (refine isl_alloc ?_; refine all' ?_) | (refine isl_box ?_; refine bxl ?_))
        refine go_call rfl rfl (q_Equal _ lo p q C9 t1 t2 k9 (m9.inA (m8.inA i1)) (m9.inA (m8.inA i2)) (by omega) (by omega)) ?_
        rintro _ w10 ⟨rfl, C10, k10, _, f10⟩
        rw [e1, e2, heq']
        repeat (first | refine sp ?_ | (refine is_load ?_; refine ld ?_) | (refine is_store ?_; refine sr ?_) | (refine is_alloc ?_; refine al ?_) | (refine is_box ?_; refine bx ?_) | (refine isl_load ?_; refine ldl ?_) | (refine isl_store ?_; refine srl ?_) | (refine isl_alloc ?_; refine all' ?_) | (refine isl_box ?_; refine bxl ?_))
        exact go_ret1 rfl rfl ⟨_, rfl, rfl, x8.trans' (f9.trans f10) fun x hx e => by omega⟩
  · have hneg' : cmpL b a = 0 := hneg.trans (by decide)
    have heq' : eqB a b = true := by rw [heq]; decide
    clear hneg heq hz
    rcases hQ with rfl | rfl | rfl
    · rcases hR with rfl | rfl | rfl
      · skip
        repeat (first | refine sp ?_ | (refine is_load ?_; refine ld ?_) | (refine is_store ?_; refine sr ?_) | (refine is_alloc ?_; refine al ?_) | (refine is_box ?_; refine bx ?_) | (refine isl_load ?_; refine ldl ?_) | (refine isl_store ?_; refine srl ?_) | (refine isl_alloc ?_; refine all' ?_) | (refine isl_box ?_; refine bxl ?_))
        refine go_call rfl rfl (q_Compare _ lo p q C t2 t1 k8 (m8.inA i2) (m8.inA i1) (by omega) (by omega)) ?_
        rintro _ w9 ⟨rfl, C9, k9, ⟨_, m9⟩, f9⟩
        rw [e1, e2, hneg']
        repeat (first | refine sp ?_ | (refine is_load ?_; refine ld ?_) | (refine is_store ?_; refine sr ?_) | (refine is_alloc ?_; refine al ?_) | (refine is_box ?_; refine bx ?_) | (refine isl_load ?_; refine ldl ?_) | (refine isl_store ?_; refine srl ?_) | (refine isl_alloc ?_; refine all' ?_) | (refine isl_box ?_; refine bxl ?_))
        refine go_call rfl rfl (q_Equal _ lo p q C9 t1 t2 k9 (m9.inA (m8.inA i1)) (m9.inA (m8.inA i2)) (by omega) (by omega)) ?_
        rintro _ w10 ⟨rfl, C10, k10, _, f10⟩
        rw [e1, e2, heq']
        repeat (first | refine sp ?_ | (refine is_load ?_; refine ld ?_) | (refine is_store ?_; refine sr ?_) | (refine is_alloc ?_; refine al ?_) | (refine is_box ?_; refine bx ?_) | (refine isl_load ?_; refine ldl ?_) | (refine isl_store ?_; refine srl ?_) | (refine isl_alloc ?_; refine all' ?_) | (refine isl_box ?_; refine bxl ?_))
        exact go_ret1 rfl rfl ⟨_, rfl, rfl, x8.trans' (f9.trans f10) fun x hx e => by omega⟩
      · skip
        repeat (first | refine sp ?_ | (refine is_load ?_; refine ld ?_) | (refine is_store ?_; refine sr ?_) | (refine is_alloc ?_; refine al ?_) | (refine is_box ?_; refine bx ?_) | (refine isl_load ?_; refine ldl ?_) | (refine isl_store ?_; refine srl ?_) | (refine isl_alloc ?_; refine all' ?_) | (refine isl_box ?_; refine bxl ?_))
        refine go_call rfl rfl (q_Compare _ lo p q C t2 t1 k8 (m8.inA i2) (m8.inA i1) (by omega) (by omega)) ?_
        rintro _ w9 ⟨rfl, C9, k9, ⟨_, m9⟩, f9⟩
        rw [e1, e2, hneg']
        repeat (first | refine sp ?_ | (refine is_load ?_; refine ld ?_) | (refine is_store ?_; refine sr ?_) | (refine is_alloc ?_; refine al ?_) | (refine is_box ?_; refine bx ?_) | (refine isl_load ?_; refine ldl ?_) | (refine isl_store ?_; refine srl ?_) | (refine isl_alloc ?_; refine all' ?_) | (refine isl_box ?_; refine bxl ?_))
        refine go_call rfl rfl (q_Equal _ lo p q C9 t1 t2 k9 (m9.inA (m8.inA i1)) (m9.inA (m8.inA i2)) (by omega) (by omega)) ?_
        rintro _ w10 ⟨rfl, C10, k10, _, f10⟩
        rw [e1, e2, heq']
        repeat (first | refine sp ?_ | (refine is_load ?_; refine ld ?_) | (refine is_store ?_; refine sr ?_) | (refine is_alloc ?_; refine al ?_) | (refine is_box ?_; refine bx ?_) | (refine isl_load ?_; refine ldl ?_) | (refine isl_store ?_; refine srl ?_) | (refine isl_alloc ?_; refine all' ?_) | (refine isl_box ?_; refine bxl ?_))
        exact go_ret1 rfl rfl ⟨_, rfl, rfl, x8.trans' (f9.trans f10) fun x hx e => by omega⟩
      · exfalso; simp at hT hT2
    · rcases hR with rfl | rfl | rfl
      · exfalso; simp at hT hT2
      · skip
        repeat (first | refine sp ?_ | (refine is_load ?_; refine ld ?_) | (refine is_store ?_; refine sr ?_) | (refine is_alloc ?_; refine al ?_) | (refine is_box ?_; refine bx ?_) | (refine isl_load ?_; refine ldl ?_) | (refine isl_store ?_; refine srl ?_) | (refine isl_alloc ?_; refine all' ?_) | (refine isl_box ?_; refine bxl ?_))
        refine go_call rfl rfl (q_Compare _ lo p q C t2 t1 k8 (m8.inA i2) (m8.inA i1) (by omega) (by omega)) ?_
        rintro _ w9 ⟨rfl, C9, k9, ⟨_, m9⟩, f9⟩
        rw [e1, e2, hneg']
        repeat (first | refine sp ?_ | (refine is_load ?_; refine ld ?_) | (refine is_store ?_; refine sr ?_) | (refine is_alloc ?_; refine al ?_) | (refine is_box ?_; refine bx ?_) | (refine isl_load ?_; refine ldl ?_) | (refine isl_store ?_; refine srl ?_) | (refine isl_alloc ?_; refine all' ?_) | (refine isl_box ?_; refine bxl ?_))
        refine go_call rfl rfl (q_Equal _ lo p q C9 t1 t2 k9 (m9.inA (m8.inA i1)) (m9.inA (m8.inA i2)) (by omega) (by omega)) ?_
        rintro _ w10 ⟨rfl, C10, k10, _, f10⟩
        rw [e1, e2, heq']
        repeat (first | refine sp ?_ | (refine is_load ?_; refine ld ?_) | (refine is_store ?_; refine sr ?_) | (refine is_alloc ?_; refine al ?_) | (refine is_box ?_; refine bx ?_) | (refine isl_load ?_; refine ldl ?_) | (refine isl_store ?_; refine srl ?_) | (refine isl_alloc ?_; refine all' ?_) | (refine isl_box ?_; refine bxl ?_))
        exact go_ret1 rfl rfl ⟨_, rfl, rfl, x8.trans' (f9.trans f10) fun x hx e => by omega⟩
      · exfalso; simp at hT hT2
    · rcases hR with rfl | rfl | rfl
      · exfalso; simp at hT hT2
      · skip
        repeat (first | refine sp ?_ | (refine is_load ?_; refine ld ?_) | (refine is_store ?_; refine sr ?_) | (refine is_alloc ?_; refine al ?_) | (refine is_box ?_; refine bx ?_) | (refine isl_load ?_; refine ldl ?_) | (refine isl_store ?_; refine srl ?_) | (refine isl_alloc ?_; refine all' ?_) | (refine isl_box ?_; refine bxl ?_))
        refine go_call rfl rfl (q_Compare _ lo p q C t2 t1 k8 (m8.inA i2) (m8.inA i1) (by omega) (by omega)) ?_
        rintro _ w9 ⟨rfl, C9, k9, ⟨_, m9⟩, f9⟩
        rw [e1, e2, hneg']
        repeat (first | refine sp ?_ | (refine is_load ?_; refine ld ?_) | (refine is_store ?_; refine sr ?_) | (refine is_alloc ?_; refine al ?_) | (refine is_box ?_; refine bx ?_) | (refine isl_load ?_; refine ldl ?_) | (refine isl_store ?_; refine srl ?_) | (refine isl_alloc ?_; refine all' ?_) | (refine isl_box ?_; refine bxl ?_))
        refine go_call rfl rfl (q_Equal _ lo p q C9 t1 t2 k9 (m9.inA (m8.inA i1)) (m9.inA (m8.inA i2)) (by omega) (by omega)) ?_
        rintro _ w10 ⟨rfl, C10, k10, _, f10⟩
        rw [e1, e2, heq']
        repeat (first | refine sp ?_ | (refine is_load ?_; refine ld ?_) | (refine is_store ?_; refine sr ?_) | (refine is_alloc ?_; refine al ?_) | (refine is_box ?_; refine bx ?_) | (refine isl_load ?_; refine ldl ?_) | (refine isl_store ?_; refine srl ?_) | (refine isl_alloc ?_; refine all' ?_) | (refine isl_box ?_; refine bxl ?_))
        exact go_ret1 rfl rfl ⟨_, rfl, rfl, x8.trans' (f9.trans f10) fun x hx e => by omega⟩
      · skip
        repeat (first | refine sp ?_ | (refine is_load ?_; refine ld ?_) | (refine is_store ?_; refine sr ?_) | (refine is_alloc ?_; refine al ?_) | (refine is_box ?_; refine bx ?_) | (refine isl_load ?_; refine ldl ?_) | (refine isl_store ?_; refine srl ?_) | (refine isl_alloc ?_; refine all' ?_) | (refine isl_box ?_; refine bxl ?_))
        refine go_call rfl rfl (q_Compare _ lo p q C t2 t1 k8 (m8.inA i2) (m8.inA i1) (by omega) (by omega)) ?_
        rintro _ w9 ⟨rfl, C9, k9, ⟨_, m9⟩, f9⟩
        rw [e1, e2, hneg']
        repeat (first | refine sp ?_ | (refine is_load ?_; refine ld ?_) | (refine is_store ?_; refine sr ?_) | (refine is_alloc ?_; refine al ?_) | (refine is_box ?_; refine bx ?_) | (refine isl_load ?_; refine ldl ?_) | (refine isl_store ?_; refine srl ?_) | (refine isl_alloc ?_; refine all' ?_) | (refine isl_box ?_; refine bxl ?_))
        refine go_call rfl rfl (q_Equal _ lo p q C9 t1 t2 k9 (m9.inA (m8.inA i1)) (m9.inA (m8.inA i2)) (by omega) (by omega)) ?_
        rintro _ w10 ⟨rfl, C10, k10, _, f10⟩
        rw [e1, e2, heq']
        repeat (first | refine sp ?_ | (refine is_load ?_; refine ld ?_) | (refine is_store ?_; refine sr ?_) | (refine is_alloc ?_; refine al ?_) | (refine is_box ?_; refine bx ?_) | (refine isl_load ?_; refine ldl ?_) | (refine isl_store ?_; refine srl ?_) | (refine isl_alloc ?_; refine all' ?_) | (refine isl_box ?_; refine bxl ?_))
        exact go_ret1 rfl rfl ⟨_, rfl, rfl, x8.trans' (f9.trans f10) fun x hx e => by omega⟩
  · have hneg' : cmpL b a = -1 := hneg.trans (by decide)
    have heq' : eqB a b = false := by rw [heq]; decide
    clear hneg heq hz
    rcases hQ with rfl | rfl | rfl
    · rcases hR with rfl | rfl | rfl
      · skip
        repeat (first | refine sp ?_ | (refine is_load ?_; refine ld ?_) | (refine is_store ?_; refine sr ?_) | (refine is_alloc ?_; refine al ?_) | (refine is_box ?_; refine bx ?_) | (refine isl_load ?_; refine ldl ?_) | (refine isl_store ?_; refine srl ?_) | (refine isl_alloc ?_; refine all' ?_) | (refine isl_box ?_; refine bxl ?_))
        refine go_call rfl rfl (q_Compare _ lo p q C t2 t1 k8 (m8.inA i2) (m8.inA i1) (by omega) (by omega)) ?_
        rintro _ w9 ⟨rfl, C9, k9, ⟨_, m9⟩, f9⟩
        rw [e1, e2, hneg']
        repeat (first | refine sp ?_ | (refine is_load ?_; refine ld ?_) | (refine is_store ?_; refine sr ?_) | (refine is_alloc ?_; refine al ?_) | (refine is_box ?_; refine bx ?_) | (refine isl_load ?_; refine ldl ?_) | (refine isl_store ?_; refine srl ?_) | (refine isl_alloc ?_; refine all' ?_) | (refine isl_box ?_; refine bxl ?_))
        refine go_call rfl rfl (q_Equal _ lo p q C9 t1 t2 k9 (m9.inA (m8.inA i1)) (m9.inA (m8.inA i2)) (by omega) (by omega)) ?_
        rintro _ w10 ⟨rfl, C10, k10, _, f10⟩
        rw [e1, e2, heq']
        repeat (first | refine sp ?_ | (refine is_load ?_; refine ld ?_) | (refine is_store ?_; refine sr ?_) | (refine is_alloc ?_; refine al ?_) | (refine is_box ?_; refine bx ?_) | (refine isl_load ?_; refine ldl ?_) | (refine isl_store ?_; refine srl ?_) | (refine isl_alloc ?_; refine all' ?_) | (refine isl_box ?_; refine bxl ?_))
        exact go_ret1 rfl rfl ⟨_, rfl, rfl, x8.trans' (f9.trans f10) fun x hx e => by omega⟩
      · skip
        repeat (first | refine sp ?_ | (refine is_load ?_; refine ld ?_) | (refine is_store ?_; refine sr ?_) | (refine is_alloc ?_; refine al ?_) | (refine is_box ?_; refine bx ?_) | (refine isl_load ?_; refine ldl ?_) | (refine isl_store ?_; refine srl ?_) | (refine isl_alloc ?_; refine all' ?_) | (refine isl_box ?_; refine bxl ?_))
        refine go_call rfl rfl (q_Compare _ lo p q C t2 t1 k8 (m8.inA i2) (m8.inA i1) (by omega) (by omega)) ?_
        rintro _ w9 ⟨rfl, C9, k9, ⟨_, m9⟩, f9⟩
        rw [e1, e2, hneg']
        repeat (first | refine sp ?_ | (refine is_load ?_; refine ld ?_) | (refine is_store ?_; refine sr ?_) | (refine is_alloc ?_; refine al ?_) | (refine is_box ?_; refine bx ?_) | (refine isl_load ?_; refine ldl ?_) | (refine isl_store ?_; refine srl ?_) | (refine isl_alloc ?_; refine all' ?_) | (refine isl_box ?_; refine bxl ?_))
        refine go_call rfl rfl (q_Equal _ lo p q C9 t1 t2 k9 (m9.inA (m8.inA i1)) (m9.inA (m8.inA i2)) (by omega) (by omega)) ?_
        rintro _ w10 ⟨rfl, C10, k10, _, f10⟩
        rw [e1, e2, heq']
        repeat (first | refine sp ?_ | (refine is_load ?_; refine ld ?_) | (refine is_store ?_; refine sr ?_) | (refine is_alloc ?_; refine al ?_) | (refine is_box ?_; refine bx ?_) | (refine isl_load ?_; refine ldl ?_) | (refine isl_store ?_; refine srl ?_) | (refine isl_alloc ?_; refine all' ?_) | (refine isl_box ?_; refine bxl ?_))
        exact go_ret1 rfl rfl ⟨_, rfl, rfl, x8.trans' (f9.trans f10) fun x hx e => by omega⟩
      · skip
        repeat (first | refine sp ?_ | (refine is_load ?_; refine ld ?_) | (refine is_store ?_; refine sr ?_) | (refine is_alloc ?_; refine al ?_) | (refine is_box ?_; refine bx ?_) | (refine isl_load ?_; refine ldl ?_) | (refine isl_store ?_; refine srl ?_) | (refine isl_alloc ?_; refine all' ?_) | (refine isl_box ?_; refine bxl ?_))
        refine go_call rfl rfl (q_Compare _ lo p q C t2 t1 k8 (m8.inA i2) (m8.inA i1) (by omega) (by omega)) ?_
        rintro _ w9 ⟨rfl, C9, k9, ⟨_, m9⟩, f9⟩
        rw [e1, e2, hneg']
        repeat (first | refine sp ?_ | (refine is_load ?_; refine ld ?_) | (refine is_store ?_; refine sr ?_) | (refine is_alloc ?_; refine al ?_) | (refine is_box ?_; refine bx ?_) | (refine isl_load ?_; refine ldl ?_) | (refine isl_store ?_; refine srl ?_) | (refine isl_alloc ?_; refine all' ?_) | (refine isl_box ?_; refine bxl ?_))
        refine go_call rfl rfl (q_Equal _ lo p q C9 t1 t2 k9 (m9.inA (m8.inA i1)) (m9.inA (m8.inA i2)) (by omega) (by omega)) ?_
        rintro _ w10 ⟨rfl, C10, k10, _, f10⟩
        rw [e1, e2, heq']
        repeat (first | refine sp ?_ | (refine is_load ?_; refine ld ?_) | (refine is_store ?_; refine sr ?_) | (refine is_alloc ?_; refine al ?_) | (refine is_box ?_; refine bx ?_) | (refine isl_load ?_; refine ldl ?_) | (refine isl_store ?_; refine srl ?_) | (refine isl_alloc ?_; refine all' ?_) | (refine isl_box ?_; refine bxl ?_))
        exact go_ret1 rfl rfl ⟨_, rfl, rfl, x8.trans' (f9.trans f10) fun x hx e => by omega⟩
    · rcases hR with rfl | rfl | rfl
      · exfalso; simp at hT hT2
      · skip
        repeat (first | refine sp ?_ | (refine is_load ?_; refine ld ?_) | (refine is_store ?_; refine sr ?_) | (refine is_alloc ?_; refine al ?_) | (refine is_box ?_; refine bx ?_) | (refine isl_load ?_; refine ldl ?_) | (refine isl_store ?_; refine srl ?_) | (refine isl_alloc ?_; refine all' ?_) | (refine isl_box ?_; refine bxl ?_))
        refine go_call rfl rfl (q_Compare _ lo p q C t2 t1 k8 (m8.inA i2) (m8.inA i1) (by omega) (by omega)) ?_
        rintro _ w9 ⟨rfl, C9, k9, ⟨_, m9⟩, f9⟩
        rw [e1, e2, hneg']
        repeat (first | refine sp ?_ | (refine is_load ?_; refine ld ?_) | (refine is_store ?_; refine sr ?_) | (refine is_alloc ?_; refine al ?_) | (refine is_box ?_; refine bx ?_) | (refine isl_load ?_; refine ldl ?_) | (refine isl_store ?_; refine srl ?_) | (refine isl_alloc ?_; refine all' ?_) | (refine isl_box ?_; refine bxl ?_))
        refine go_call rfl rfl (q_Equal _ lo p q C9 t1 t2 k9 (m9.inA (m8.inA i1)) (m9.inA (m8.inA i2)) (by omega) (by omega)) ?_
        rintro _ w10 ⟨rfl, C10, k10, _, f10⟩
        rw [e1, e2, heq']
        repeat (first | refine sp ?_ | (refine is_load ?_; refine ld ?_) | (refine is_store ?_; refine sr ?_) | (refine is_alloc ?_; refine al ?_) | (refine is_box ?_; refine bx ?_) | (refine isl_load ?_; refine ldl ?_) | (refine isl_store ?_; refine srl ?_) | (refine isl_alloc ?_; refine all' ?_) | (refine isl_box ?_; refine bxl ?_))
        exact go_ret1 rfl rfl ⟨_, rfl, rfl, x8.trans' (f9.trans f10) fun x hx e => by omega⟩
      · skip
        repeat (first | refine sp ?_ | (refine is_load ?_; refine ld ?_) | (refine is_store ?_; refine sr ?_) | (refine is_alloc ?_; refine al ?_) | (refine is_box ?_; refine bx ?_) | (refine isl_load ?_; refine ldl ?_) | (refine isl_store ?_; refine srl ?_) | (refine isl_alloc ?_; refine all' ?_) | (refine isl_box ?_; refine bxl ?_))
        refine go_call rfl rfl (q_Compare _ lo p q C t2 t1 k8 (m8.inA i2) (m8.inA i1) (by omega) (by omega)) ?_
        rintro _ w9 ⟨rfl, C9, k9, ⟨_, m9⟩, f9⟩
        rw [e1, e2, hneg']
        repeat (first | refine sp ?_ | (refine is_load ?_; refine ld ?_) | (refine is_store ?_; refine sr ?_) | (refine is_alloc ?_; refine al ?_) | (refine is_box ?_; refine bx ?_) | (refine isl_load ?_; refine ldl ?_) | (refine isl_store ?_; refine srl ?_) | (refine isl_alloc ?_; refine all' ?_) | (refine isl_box ?_; refine bxl ?_))
        refine go_call rfl rfl (q_Equal _ lo p q C9 t1 t2 k9 (m9.inA (m8.inA i1)) (m9.inA (m8.inA i2)) (by omega) (by omega)) ?_
        rintro _ w10 ⟨rfl, C10, k10, _, f10⟩
        rw [e1, e2, heq']
        repeat (first | refine sp ?_ | (refine is_load ?_; refine ld ?_) | (refine is_store ?_; refine sr ?_) | (refine is_alloc ?_; refine al ?_) | (refine is_box ?_; refine bx ?_) | (refine isl_load ?_; refine ldl ?_) | (refine isl_store ?_; refine srl ?_) | (refine isl_alloc ?_; refine all' ?_) | (refine isl_box ?_; refine bxl ?_))
        exact go_ret1 rfl rfl ⟨_, rfl, rfl, x8.trans' (f9.trans f10) fun x hx e => by omega⟩
    · rcases hR with rfl | rfl | rfl
      · exfalso; simp at hT hT2
      · skip
        repeat (first | refine sp ?_ | (refine is_load ?_; refine ld ?_) | (refine is_store ?_; refine sr ?_) | (refine is_alloc ?_; refine al ?_) | (refine is_box ?_; refine bx ?_) | (refine isl_load ?_; refine ldl ?_) | (refine isl_store ?_; refine srl ?_) | (refine isl_alloc ?_; refine all' ?_) | (refine isl_box ?_; refine bxl ?_))
        refine go_call rfl rfl (q_Compare _ lo p q C t2 t1 k8 (m8.inA i2) (m8.inA i1) (by omega) (by omega)) ?_
        rintro _ w9 ⟨rfl, C9, k9, ⟨_, m9⟩, f9⟩
        rw [e1, e2, hneg']
        repeat (first | refine sp ?_ | (refine is_load ?_; refine ld ?_) | (refine is_store ?_; refine sr ?_) | (refine is_alloc ?_; refine al ?_) | (refine is_box ?_; refine bx ?_) | (refine isl_load ?_; refine ldl ?_) | (refine isl_store ?_; refine srl ?_) | (refine isl_alloc ?_; refine all' ?_) | (refine isl_box ?_; refine bxl ?_))
        refine go_call rfl rfl (q_Equal _ lo p q C9 t1 t2 k9 (m9.inA (m8.inA i1)) (m9.inA (m8.inA i2)) (by omega) (by omega)) ?_
        rintro _ w10 ⟨rfl, C10, k10, _, f10⟩
        rw [e1, e2, heq']
        repeat (first | refine sp ?_ | (refine is_load ?_; refine ld ?_) | (refine is_store ?_; refine sr ?_) | (refine is_alloc ?_; refine al ?_) | (refine is_box ?_; refine bx ?_) | (refine isl_load ?_; refine ldl ?_) | (refine isl_store ?_; refine srl ?_) | (refine isl_alloc ?_; refine all' ?_) | (refine isl_box ?_; refine bxl ?_))
        exact go_ret1 rfl rfl ⟨_, rfl, rfl, x8.trans' (f9.trans f10) fun x hx e => by omega⟩
      · skip
        repeat (first | refine sp ?_ | (refine is_load ?_; refine ld ?_) | (refine is_store ?_; refine sr ?_) | (refine is_alloc ?_; refine al ?_) | (refine is_box ?_; refine bx ?_) | (refine isl_load ?_; refine ldl ?_) | (refine isl_store ?_; refine srl ?_) | (refine isl_alloc ?_; refine all' ?_) | (refine isl_box ?_; refine bxl ?_))
        refine go_call rfl rfl (q_Compare _ lo p q C t2 t1 k8 (m8.inA i2) (m8.inA i1) (by omega) (by omega)) ?_
        rintro _ w9 ⟨rfl, C9, k9, ⟨_, m9⟩, f9⟩
        rw [e1, e2, hneg']
        repeat (first | refine sp ?_ | (refine is_load ?_; refine ld ?_) | (refine is_store ?_; refine sr ?_) | (refine is_alloc ?_; refine al ?_) | (refine is_box ?_; refine bx ?_) | (refine isl_load ?_; refine ldl ?_) | (refine isl_store ?_; refine srl ?_) | (refine isl_alloc ?_; refine all' ?_) | (refine isl_box ?_; refine bxl ?_))
        refine go_call rfl rfl (q_Equal _ lo p q C9 t1 t2 k9 (m9.inA (m8.inA i1)) (m9.inA (m8.inA i2)) (by omega) (by omega)) ?_
        rintro _ w10 ⟨rfl, C10, k10, _, f10⟩
        rw [e1, e2, heq']
        repeat (first | refine sp ?_ | (refine is_load ?_; refine ld ?_) | (refine is_store ?_; refine sr ?_) | (refine is_alloc ?_; refine al ?_) | (refine is_box ?_; refine bx ?_) | (refine isl_load ?_; refine ldl ?_) | (refine isl_store ?_; refine srl ?_) | (refine isl_alloc ?_; refine all' ?_) | (refine isl_box ?_; refine bxl ?_))
        exact go_ret1 rfl rfl ⟨_, rfl, rfl, x8.trans' (f9.trans f10) fun x hx e => by omega⟩

end Go.Proofs.Yteghhalnpdikoaa
