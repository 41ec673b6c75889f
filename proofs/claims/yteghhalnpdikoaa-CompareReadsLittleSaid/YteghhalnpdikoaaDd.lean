/-
  The other laws of chapter 17.
-/
import Derived.Test.YteghhalnpdikoaaDc
set_option linter.unusedVariables false
namespace Go.Proofs.Yteghhalnpdikoaa
open Go.Vc

set_option maxHeartbeats 4000000 in
theorem c_LawReads17 (rv ov : Value) (r o : List (Int × Int)) (tilt : Int) (w : World) (hr : Rd w 0 rv entC r) (ho : Rd w 0 ov entC o) (hri : InE r) (hoi : InE o) (hrl : r.length ≤ 9223372036854775807) (hol : o.length ≤ 9223372036854775807) (ht : 0 ≤ tilt ∧ tilt ≤ 18446744073709551615) :
    Calls Try.prog 4 [rv, ov, .int .u64 tilt].toArray w (Ret fun x w' => x = .bool true ∧ Ext w w') := by
  refine calls_go Try.func4 rfl Try.ntmps4 (Nat.le_of_ble_eq_true rfl) ?_
  repeat (first | refine sp ?_ | (refine is_load ?_; refine ld ?_) | (refine is_store ?_; refine sr ?_) | (refine is_alloc ?_; refine al ?_) | (refine is_box ?_; refine bx ?_) | (refine isl_load ?_; refine ldl ?_) | (refine isl_store ?_; refine srl ?_) | (refine isl_alloc ?_; refine all' ?_) | (refine isl_box ?_; refine bxl ?_))
  refine go_call rfl rfl (c_pair w rv ov r o tilt 0 0 hr ho hri hoi hrl hol ht (by omega) (by omega)) ?_
  rintro _ w1 ⟨lo, p, q, B, t, u, a, b, lv, mv, rfl, g1, hre⟩
  repeat (first | refine sp ?_ | (refine is_load ?_; refine ld ?_) | (refine is_store ?_; refine sr ?_) | (refine is_alloc ?_; refine al ?_) | (refine is_box ?_; refine bx ?_) | (refine isl_load ?_; refine ldl ?_) | (refine isl_store ?_; refine srl ?_) | (refine isl_alloc ?_; refine all' ?_) | (refine isl_box ?_; refine bxl ?_))
  refine go_call rfl rfl (c_awake17 w1) ?_
  rintro _ w2 ⟨rfl, hx2⟩
  have g2 := g1.step hx2
  obtain ⟨zt, zu, za, zb⟩ := g2.ts
  obtain ⟨s1, c1, rfl, _, _⟩ := id g2.ra
  obtain ⟨s2, c2, rfl, _, _⟩ := id g2.rb
  have hpl := g2.ar.lt p g2.ar.fpp
  have sa : Srt t.ents := by rw [g2.et]; exact g2.oa.srt
  have sb : Srt u.ents := by rw [g2.eu]; exact g2.ob.srt
  have hst : Srt a := g2.oa.srt
  have hsu : Srt b := g2.ob.srt
  have hrt : t.root < 4294967296 := g2.it.rootlt g2.ar.wf
  repeat (first | refine sp ?_ | (refine is_load ?_; refine ld ?_) | (refine is_store ?_; refine sr ?_) | (refine is_alloc ?_; refine al ?_) | (refine is_box ?_; refine bx ?_) | (refine isl_load ?_; refine ldl ?_) | (refine isl_store ?_; refine srl ?_) | (refine isl_alloc ?_; refine all' ?_) | (refine isl_box ?_; refine bxl ?_))
  refine go_call rfl rfl (p_Reads w2 lo p q B g2.ar) ?_
  rintro _ w3 ⟨rfl, rfl⟩
  rw [hre]
  repeat (first | refine sp ?_ | (refine is_load ?_; refine ld ?_) | (refine is_store ?_; refine sr ?_) | (refine is_alloc ?_; refine al ?_) | (refine is_box ?_; refine bx ?_) | (refine isl_load ?_; refine ldl ?_) | (refine isl_store ?_; refine srl ?_) | (refine isl_alloc ?_; refine all' ?_) | (refine isl_box ?_; refine bxl ?_))
  refine go_call rfl rfl (q_Equal_self _ p t.root) ?_
  rintro _ w3 ⟨rfl, rfl⟩
  repeat (first | refine sp ?_ | (refine is_load ?_; refine ld ?_) | (refine is_store ?_; refine sr ?_) | (refine is_alloc ?_; refine al ?_) | (refine is_box ?_; refine bx ?_) | (refine isl_load ?_; refine ldl ?_) | (refine isl_store ?_; refine srl ?_) | (refine isl_alloc ?_; refine all' ?_) | (refine isl_box ?_; refine bxl ?_))
  refine go_call rfl rfl (c_Within _ lo p q B 0 2 g2.ar (by omega) (by omega) (by omega) (by omega)) ?_
  rintro _ w3 ⟨rfl, rfl⟩
  repeat (first | refine sp ?_ | (refine is_load ?_; refine ld ?_) | (refine is_store ?_; refine sr ?_) | (refine is_alloc ?_; refine al ?_) | (refine is_box ?_; refine bx ?_) | (refine isl_load ?_; refine ldl ?_) | (refine isl_store ?_; refine srl ?_) | (refine isl_alloc ?_; refine all' ?_) | (refine isl_box ?_; refine bxl ?_))
  refine go_call rfl rfl (p_Reads _ lo p q B g2.ar) ?_
  rintro _ w3 ⟨rfl, rfl⟩
  rw [hre]
  repeat (first | refine sp ?_ | (refine is_load ?_; refine ld ?_) | (refine is_store ?_; refine sr ?_) | (refine is_alloc ?_; refine al ?_) | (refine is_box ?_; refine bx ?_) | (refine isl_load ?_; refine ldl ?_) | (refine isl_store ?_; refine srl ?_) | (refine isl_alloc ?_; refine all' ?_) | (refine isl_box ?_; refine bxl ?_))
  refine go_call rfl rfl (q_Subset_self _ p t.root) ?_
  rintro _ w3 ⟨rfl, rfl⟩
  repeat (first | refine sp ?_ | (refine is_load ?_; refine ld ?_) | (refine is_store ?_; refine sr ?_) | (refine is_alloc ?_; refine al ?_) | (refine is_box ?_; refine bx ?_) | (refine isl_load ?_; refine ldl ?_) | (refine isl_store ?_; refine srl ?_) | (refine isl_alloc ?_; refine all' ?_) | (refine isl_box ?_; refine bxl ?_))
  refine go_call rfl rfl (c_Within _ lo p q B 0 2 g2.ar (by omega) (by omega) (by omega) (by omega)) ?_
  rintro _ w3 ⟨rfl, rfl⟩
  repeat (first | refine sp ?_ | (refine is_load ?_; refine ld ?_) | (refine is_store ?_; refine sr ?_) | (refine is_alloc ?_; refine al ?_) | (refine is_box ?_; refine bx ?_) | (refine isl_load ?_; refine ldl ?_) | (refine isl_store ?_; refine srl ?_) | (refine isl_alloc ?_; refine all' ?_) | (refine isl_box ?_; refine bxl ?_))
  refine go_call rfl rfl (p_Reads _ lo p q B g2.ar) ?_
  rintro _ w3 ⟨rfl, rfl⟩
  rw [hre]
  repeat (first | refine sp ?_ | (refine is_load ?_; refine ld ?_) | (refine is_store ?_; refine sr ?_) | (refine is_alloc ?_; refine al ?_) | (refine is_box ?_; refine bx ?_) | (refine isl_load ?_; refine ldl ?_) | (refine isl_store ?_; refine srl ?_) | (refine isl_alloc ?_; refine all' ?_) | (refine isl_box ?_; refine bxl ?_))
  refine go_call rfl rfl (q_Compare_self _ p t.root) ?_
  rintro _ w3 ⟨rfl, rfl⟩
  repeat (first | refine sp ?_ | (refine is_load ?_; refine ld ?_) | (refine is_store ?_; refine sr ?_) | (refine is_alloc ?_; refine al ?_) | (refine is_box ?_; refine bx ?_) | (refine isl_load ?_; refine ldl ?_) | (refine isl_store ?_; refine srl ?_) | (refine isl_alloc ?_; refine all' ?_) | (refine isl_box ?_; refine bxl ?_))
  refine go_call rfl rfl (c_Within _ lo p q B 0 2 g2.ar (by omega) (by omega) (by omega) (by omega)) ?_
  rintro _ w3 ⟨rfl, rfl⟩
  by_cases hlen : a.length = b.length
  · repeat (first | refine sp ?_ | (refine is_load ?_; refine ld ?_) | (refine is_store ?_; refine sr ?_) | (refine is_alloc ?_; refine al ?_) | (refine is_box ?_; refine bx ?_) | (refine isl_load ?_; refine ldl ?_) | (refine isl_store ?_; refine srl ?_) | (refine isl_alloc ?_; refine all' ?_) | (refine isl_box ?_; refine bxl ?_))
    exact go_ret1 rfl rfl ⟨_, rfl, rfl, g2.ext⟩
  · repeat (first | refine sp ?_ | (refine is_load ?_; refine ld ?_) | (refine is_store ?_; refine sr ?_) | (refine is_alloc ?_; refine al ?_) | (refine is_box ?_; refine bx ?_) | (refine isl_load ?_; refine ldl ?_) | (refine isl_store ?_; refine srl ?_) | (refine isl_alloc ?_; refine all' ?_) | (refine isl_box ?_; refine bxl ?_))
    refine go_call rfl rfl (p_Reads _ lo p q B g2.ar) ?_
    rintro _ w3 ⟨rfl, rfl⟩
    rw [hre]
    repeat (first | refine sp ?_ | (refine is_load ?_; refine ld ?_) | (refine is_store ?_; refine sr ?_) | (refine is_alloc ?_; refine al ?_) | (refine is_box ?_; refine bx ?_) | (refine isl_load ?_; refine ldl ?_) | (refine isl_store ?_; refine srl ?_) | (refine isl_alloc ?_; refine all' ?_) | (refine isl_box ?_; refine bxl ?_))
    refine go_call rfl rfl (q_Equal_ne _ lo p q B t u g2.ar g2.it g2.iu (by omega) (by omega) (by omega)) ?_
    rintro _ w4 ⟨rfl, B4, ha4, hB4, f4⟩
    have hle := hB4.le (by omega)
    repeat (first | refine sp ?_ | (refine is_load ?_; refine ld ?_) | (refine is_store ?_; refine sr ?_) | (refine is_alloc ?_; refine al ?_) | (refine is_box ?_; refine bx ?_) | (refine isl_load ?_; refine ldl ?_) | (refine isl_store ?_; refine srl ?_) | (refine isl_alloc ?_; refine all' ?_) | (refine isl_box ?_; refine bxl ?_))
    refine go_call rfl rfl (c_Within _ lo p q B4 0 4 ha4 (by omega) (by omega) (by omega) (by omega)) ?_
    rintro _ w5 ⟨rfl, rfl⟩
    repeat (first | refine sp ?_ | (refine is_load ?_; refine ld ?_) | (refine is_store ?_; refine sr ?_) | (refine is_alloc ?_; refine al ?_) | (refine is_box ?_; refine bx ?_) | (refine isl_load ?_; refine ldl ?_) | (refine isl_store ?_; refine srl ?_) | (refine isl_alloc ?_; refine all' ?_) | (refine isl_box ?_; refine bxl ?_))
    exact go_ret1 rfl rfl ⟨_, rfl, rfl, g2.ext.trans' f4 fun x hx e => by have := g2.lof p g2.ar.fpp; have := g2.low; omega⟩

set_option maxHeartbeats 8000000 in
theorem c_LawSubsets17 (rv ov : Value) (r o : List (Int × Int)) (tilt kind at' : Int) (w : World) (hr : Rd w 0 rv entC r) (ho : Rd w 0 ov entC o) (hri : InE r) (hoi : InE o) (hrl : r.length ≤ 9223372036854775807) (hol : o.length ≤ 9223372036854775807) (ht : 0 ≤ tilt ∧ tilt ≤ 18446744073709551615) (hk : 0 ≤ kind ∧ kind ≤ 255) (hat : -9223372036854775808 ≤ at' ∧ at' ≤ 9223372036854775807) :
    Calls Try.prog 5 [rv, ov, .int .u64 tilt, .int .u8 kind, .int .i64 at'].toArray w (Ret fun x w' => x = .bool true ∧ Ext w w') := by
  refine calls_go Try.func5 rfl Try.ntmps5 (Nat.le_of_ble_eq_true rfl) ?_
  repeat (first | refine sp ?_ | (refine is_load ?_; refine ld ?_) | (refine is_store ?_; refine sr ?_) | (refine is_alloc ?_; refine al ?_) | (refine is_box ?_; refine bx ?_) | (refine isl_load ?_; refine ldl ?_) | (refine isl_store ?_; refine srl ?_) | (refine isl_alloc ?_; refine all' ?_) | (refine isl_box ?_; refine bxl ?_))
  refine go_call rfl rfl (c_pair w rv ov r o tilt kind at' hr ho hri hoi hrl hol ht hk hat) ?_
  rintro _ w1 ⟨lo, p, q, B, t, u, a, b, lv, mv, rfl, g1, hre⟩
  repeat (first | refine sp ?_ | (refine is_load ?_; refine ld ?_) | (refine is_store ?_; refine sr ?_) | (refine is_alloc ?_; refine al ?_) | (refine is_box ?_; refine bx ?_) | (refine isl_load ?_; refine ldl ?_) | (refine isl_store ?_; refine srl ?_) | (refine isl_alloc ?_; refine all' ?_) | (refine isl_box ?_; refine bxl ?_))
  refine go_call rfl rfl (c_awake17 w1) ?_
  rintro _ w2 ⟨rfl, hx2⟩
  have g2 := g1.step hx2
  obtain ⟨zt, zu, za, zb⟩ := g2.ts
  obtain ⟨s1, c1, rfl, _, _⟩ := id g2.ra
  obtain ⟨s2, c2, rfl, _, _⟩ := id g2.rb
  have hpl := g2.ar.lt p g2.ar.fpp
  have sa : Srt t.ents := by rw [g2.et]; exact g2.oa.srt
  have sb : Srt u.ents := by rw [g2.eu]; exact g2.ob.srt
  have hst : Srt a := g2.oa.srt
  have hsu : Srt b := g2.ob.srt
  have hboth := sub_both hst hsu
  have hdis : subB a b = true → disB a b = decide (a.length = 0) := sub_dis
  repeat (first | refine sp ?_ | (refine is_load ?_; refine ld ?_) | (refine is_store ?_; refine sr ?_) | (refine is_alloc ?_; refine al ?_) | (refine is_box ?_; refine bx ?_) | (refine isl_load ?_; refine ldl ?_) | (refine isl_store ?_; refine srl ?_) | (refine isl_alloc ?_; refine all' ?_) | (refine isl_box ?_; refine bxl ?_))
  refine go_call rfl rfl (q_Subset _ lo p q B t u g2.ar g2.it g2.iu (by omega) (by omega) sa sb) ?_
  rintro _ w3 ⟨rfl, hR⟩
  obtain ⟨B3, g3, _, _⟩ := g2.rd hR
  rw [g3.et, g3.eu]
  cases h1 : subB a b with
  | false =>
    rw [h1] at hboth
    have he : eqB a b = false := by rw [← hboth]; rfl
    repeat (first | refine sp ?_ | (refine is_load ?_; refine ld ?_) | (refine is_store ?_; refine sr ?_) | (refine is_alloc ?_; refine al ?_) | (refine is_box ?_; refine bx ?_) | (refine isl_load ?_; refine ldl ?_) | (refine isl_store ?_; refine srl ?_) | (refine isl_alloc ?_; refine all' ?_) | (refine isl_box ?_; refine bxl ?_))
    refine go_call rfl rfl (q_Equal _ lo p q B3 t u g3.ar g3.it g3.iu (by omega) (by omega)) ?_
    rintro _ w5 ⟨rfl, hR⟩
    obtain ⟨B5, g5, _, _⟩ := g3.rd hR
    rw [g3.et, g3.eu, he]
    repeat (first | refine sp ?_ | (refine is_load ?_; refine ld ?_) | (refine is_store ?_; refine sr ?_) | (refine is_alloc ?_; refine al ?_) | (refine is_box ?_; refine bx ?_) | (refine isl_load ?_; refine ldl ?_) | (refine isl_store ?_; refine srl ?_) | (refine isl_alloc ?_; refine all' ?_) | (refine isl_box ?_; refine bxl ?_))
    refine go_call rfl rfl (q_Subset _ lo p q B5 t u g5.ar g5.it g5.iu (by omega) (by omega) sa sb) ?_
    rintro _ w7 ⟨rfl, hR⟩
    obtain ⟨B7, g7, _, _⟩ := g5.rd hR
    rw [g3.et, g3.eu, h1]
    repeat (first | refine sp ?_ | (refine is_load ?_; refine ld ?_) | (refine is_store ?_; refine sr ?_) | (refine is_alloc ?_; refine al ?_) | (refine is_box ?_; refine bx ?_) | (refine isl_load ?_; refine ldl ?_) | (refine isl_store ?_; refine srl ?_) | (refine isl_alloc ?_; refine all' ?_) | (refine isl_box ?_; refine bxl ?_))
    refine go_call rfl rfl (q_Subset _ lo p q _ .nil u g7.ar trivial g7.iu (Nat.zero_le _) (by omega) (by simp [Srt, Tr.ents]) sb) ?_
    rintro _ w8 ⟨rfl, hR⟩
    obtain ⟨B8, g8, _, _⟩ := g7.rd hR
    rw [show subB Tr.nil.ents u.ents = true from rfl]
    repeat (first | refine sp ?_ | (refine is_load ?_; refine ld ?_) | (refine is_store ?_; refine sr ?_) | (refine is_alloc ?_; refine al ?_) | (refine is_box ?_; refine bx ?_) | (refine isl_load ?_; refine ldl ?_) | (refine isl_store ?_; refine srl ?_) | (refine isl_alloc ?_; refine all' ?_) | (refine isl_box ?_; refine bxl ?_))
    refine go_call rfl rfl (q_Disjoint _ lo p q B8 .nil u g8.ar trivial g8.iu (Nat.zero_le _) (by omega) (by simp [Srt, Tr.ents]) sb) ?_
    rintro _ w9 ⟨rfl, hR⟩
    obtain ⟨B9, g9, _, _⟩ := g8.rd hR
    rw [show disB Tr.nil.ents u.ents = true from rfl]
    repeat (first | refine sp ?_ | (refine is_load ?_; refine ld ?_) | (refine is_store ?_; refine sr ?_) | (refine is_alloc ?_; refine al ?_) | (refine is_box ?_; refine bx ?_) | (refine isl_load ?_; refine ldl ?_) | (refine isl_store ?_; refine srl ?_) | (refine isl_alloc ?_; refine all' ?_) | (refine isl_box ?_; refine bxl ?_))
    refine go_call rfl rfl (q_Disjoint _ lo p q B9 u .nil g9.ar g9.iu trivial (by omega) (Nat.zero_le _) sb (by simp [Srt, Tr.ents])) ?_
    rintro _ w10 ⟨rfl, hR⟩
    obtain ⟨B10, g10, _, _⟩ := g9.rd hR
    rw [show disB u.ents Tr.nil.ents = true by simp [disB, Tr.ents]]
    repeat (first | refine sp ?_ | (refine is_load ?_; refine ld ?_) | (refine is_store ?_; refine sr ?_) | (refine is_alloc ?_; refine al ?_) | (refine is_box ?_; refine bx ?_) | (refine isl_load ?_; refine ldl ?_) | (refine isl_store ?_; refine srl ?_) | (refine isl_alloc ?_; refine all' ?_) | (refine isl_box ?_; refine bxl ?_))
    refine go_call rfl rfl (q_Equal_self _ p 0) ?_
    rintro _ w11 ⟨rfl, rfl⟩
    repeat (first | refine sp ?_ | (refine is_load ?_; refine ld ?_) | (refine is_store ?_; refine sr ?_) | (refine is_alloc ?_; refine al ?_) | (refine is_box ?_; refine bx ?_) | (refine isl_load ?_; refine ldl ?_) | (refine isl_store ?_; refine srl ?_) | (refine isl_alloc ?_; refine all' ?_) | (refine isl_box ?_; refine bxl ?_))
    exact go_ret1 rfl rfl ⟨_, rfl, rfl, g10.ext⟩
  | true =>
    rw [h1] at hboth
    have hdis := hdis h1
    repeat (first | refine sp ?_ | (refine is_load ?_; refine ld ?_) | (refine is_store ?_; refine sr ?_) | (refine is_alloc ?_; refine al ?_) | (refine is_box ?_; refine bx ?_) | (refine isl_load ?_; refine ldl ?_) | (refine isl_store ?_; refine srl ?_) | (refine isl_alloc ?_; refine all' ?_) | (refine isl_box ?_; refine bxl ?_))
    refine go_call rfl rfl (q_Subset _ lo p q B3 u t g3.ar g3.iu g3.it (by omega) (by omega) sb sa) ?_
    rintro _ w4 ⟨rfl, hR⟩
    obtain ⟨B4, g4, _, _⟩ := g3.rd hR
    rw [g3.et, g3.eu]
    have he : eqB a b = subB b a := by rw [← hboth]; rfl
    repeat (first | refine sp ?_ | (refine is_load ?_; refine ld ?_) | (refine is_store ?_; refine sr ?_) | (refine is_alloc ?_; refine al ?_) | (refine is_box ?_; refine bx ?_) | (refine isl_load ?_; refine ldl ?_) | (refine isl_store ?_; refine srl ?_) | (refine isl_alloc ?_; refine all' ?_) | (refine isl_box ?_; refine bxl ?_))
    refine go_call rfl rfl (q_Equal _ lo p q B4 t u g4.ar g4.it g4.iu (by omega) (by omega)) ?_
    rintro _ w5 ⟨rfl, hR⟩
    obtain ⟨B5, g5, _, _⟩ := g4.rd hR
    rw [g3.et, g3.eu, he]
    generalize subB b a = z
    repeat (first | refine sp ?_ | (refine is_load ?_; refine ld ?_) | (refine is_store ?_; refine sr ?_) | (refine is_alloc ?_; refine al ?_) | (refine is_box ?_; refine bx ?_) | (refine isl_load ?_; refine ldl ?_) | (refine isl_store ?_; refine srl ?_) | (refine isl_alloc ?_; refine all' ?_) | (refine isl_box ?_; refine bxl ?_))
    refine go_as 53 (u' := .bool true) rfl (by simp) ?_
    repeat (first | refine sp ?_ | (refine is_load ?_; refine ld ?_) | (refine is_store ?_; refine sr ?_) | (refine is_alloc ?_; refine al ?_) | (refine is_box ?_; refine bx ?_) | (refine isl_load ?_; refine ldl ?_) | (refine isl_store ?_; refine srl ?_) | (refine isl_alloc ?_; refine all' ?_) | (refine isl_box ?_; refine bxl ?_))
    refine go_call rfl rfl (q_Subset _ lo p q B5 t u g5.ar g5.it g5.iu (by omega) (by omega) sa sb) ?_
    rintro _ w6 ⟨rfl, hR⟩
    obtain ⟨B6, g6, _, _⟩ := g5.rd hR
    rw [g3.et, g3.eu, h1]
    repeat (first | refine sp ?_ | (refine is_load ?_; refine ld ?_) | (refine is_store ?_; refine sr ?_) | (refine is_alloc ?_; refine al ?_) | (refine is_box ?_; refine bx ?_) | (refine isl_load ?_; refine ldl ?_) | (refine isl_store ?_; refine srl ?_) | (refine isl_alloc ?_; refine all' ?_) | (refine isl_box ?_; refine bxl ?_))
    refine go_call rfl rfl (q_Disjoint _ lo p q B6 t u g6.ar g6.it g6.iu (by omega) (by omega) sa sb) ?_
    rintro _ w7 ⟨rfl, hR⟩
    obtain ⟨B7, g7, _, _⟩ := g6.rd hR
    rw [g3.et, g3.eu, hdis]
    repeat (first | refine sp ?_ | (refine is_load ?_; refine ld ?_) | (refine is_store ?_; refine sr ?_) | (refine is_alloc ?_; refine al ?_) | (refine is_box ?_; refine bx ?_) | (refine isl_load ?_; refine ldl ?_) | (refine isl_store ?_; refine srl ?_) | (refine isl_alloc ?_; refine all' ?_) | (refine isl_box ?_; refine bxl ?_))
    refine go_as 70 (u' := .bool true) rfl (by by_cases h0 : a.length = 0 <;> simp [h0]) ?_
    repeat (first | refine sp ?_ | (refine is_load ?_; refine ld ?_) | (refine is_store ?_; refine sr ?_) | (refine is_alloc ?_; refine al ?_) | (refine is_box ?_; refine bx ?_) | (refine isl_load ?_; refine ldl ?_) | (refine isl_store ?_; refine srl ?_) | (refine isl_alloc ?_; refine all' ?_) | (refine isl_box ?_; refine bxl ?_))
    refine go_call rfl rfl (q_Subset _ lo p q _ .nil u g7.ar trivial g7.iu (Nat.zero_le _) (by omega) (by simp [Srt, Tr.ents]) sb) ?_
    rintro _ w8 ⟨rfl, hR⟩
    obtain ⟨B8, g8, _, _⟩ := g7.rd hR
    rw [show subB Tr.nil.ents u.ents = true from rfl]
    repeat (first | refine sp ?_ | (refine is_load ?_; refine ld ?_) | (refine is_store ?_; refine sr ?_) | (refine is_alloc ?_; refine al ?_) | (refine is_box ?_; refine bx ?_) | (refine isl_load ?_; refine ldl ?_) | (refine isl_store ?_; refine srl ?_) | (refine isl_alloc ?_; refine all' ?_) | (refine isl_box ?_; refine bxl ?_))
    refine go_call rfl rfl (q_Disjoint _ lo p q B8 .nil u g8.ar trivial g8.iu (Nat.zero_le _) (by omega) (by simp [Srt, Tr.ents]) sb) ?_
    rintro _ w9 ⟨rfl, hR⟩
    obtain ⟨B9, g9, _, _⟩ := g8.rd hR
    rw [show disB Tr.nil.ents u.ents = true from rfl]
    repeat (first | refine sp ?_ | (refine is_load ?_; refine ld ?_) | (refine is_store ?_; refine sr ?_) | (refine is_alloc ?_; refine al ?_) | (refine is_box ?_; refine bx ?_) | (refine isl_load ?_; refine ldl ?_) | (refine isl_store ?_; refine srl ?_) | (refine isl_alloc ?_; refine all' ?_) | (refine isl_box ?_; refine bxl ?_))
    refine go_call rfl rfl (q_Disjoint _ lo p q B9 u .nil g9.ar g9.iu trivial (by omega) (Nat.zero_le _) sb (by simp [Srt, Tr.ents])) ?_
    rintro _ w10 ⟨rfl, hR⟩
    obtain ⟨B10, g10, _, _⟩ := g9.rd hR
    rw [show disB u.ents Tr.nil.ents = true by simp [disB, Tr.ents]]
    repeat (first | refine sp ?_ | (refine is_load ?_; refine ld ?_) | (refine is_store ?_; refine sr ?_) | (refine is_alloc ?_; refine al ?_) | (refine is_box ?_; refine bx ?_) | (refine isl_load ?_; refine ldl ?_) | (refine isl_store ?_; refine srl ?_) | (refine isl_alloc ?_; refine all' ?_) | (refine isl_box ?_; refine bxl ?_))
    refine go_call rfl rfl (q_Equal_self _ p 0) ?_
    rintro _ w11 ⟨rfl, rfl⟩
    repeat (first | refine sp ?_ | (refine is_load ?_; refine ld ?_) | (refine is_store ?_; refine sr ?_) | (refine is_alloc ?_; refine al ?_) | (refine is_box ?_; refine bx ?_) | (refine isl_load ?_; refine ldl ?_) | (refine isl_store ?_; refine srl ?_) | (refine isl_alloc ?_; refine all' ?_) | (refine isl_box ?_; refine bxl ?_))
    exact go_ret1 rfl rfl ⟨_, rfl, rfl, g10.ext⟩

end Go.Proofs.Yteghhalnpdikoaa
