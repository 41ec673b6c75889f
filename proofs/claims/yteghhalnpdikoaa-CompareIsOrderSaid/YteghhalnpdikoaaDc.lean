/-
  The example of chapter 17; the laws on two trees.
-/
import Derived.Test.YteghhalnpdikoaaDb
import Derived.Test.YteghhalnpdikoaaGt
set_option linter.unusedVariables false
namespace Go.Vc
theorem At.rdF {α : Type} {w : World} {b n : Nat} {T : TypeId} {enc : α → List Value} {xs : List α} {S : Nat → Prop} (h : At w b (xs.flatMap enc) T) (hn : n = xs.length) (hb : ¬ S b) : RdF w S (.slice (some ⟨b, 0, none⟩) n n) enc xs := by
  obtain ⟨sa, cap, e, hc, hr, hbb⟩ := (h.rd hn (Nat.zero_le b) : Rd w 0 _ enc xs)
  simp only [Value.slice.injEq] at e
  obtain ⟨rfl, _, rfl⟩ := e
  refine ⟨_, _, by rw [hn], hc, hr, fun b' o e hx => ?_⟩
  have hlt := h.lt
  simp only [Option.some.injEq, Addr.mk.injEq] at e
  obtain ⟨rfl, _, _⟩ := e
  exact ⟨hlt, hb⟩
end Go.Vc
namespace Go.Proofs.Yteghhalnpdikoaa
open Go.Vc

set_option maxHeartbeats 2000000 in
theorem c_awake17 (w : World) : Calls Try.prog 14 [].toArray w (Ret fun r w' => r = .bool true ∧ Ext w w') := by
  refine calls_go Try.func14 rfl Try.ntmps14 (Nat.le_of_ble_eq_true rfl) ?_
  repeat (first | refine sp ?_ | (refine is_load ?_; refine ld ?_) | (refine is_store ?_; refine sr ?_) | (refine is_alloc ?_; refine al ?_) | (refine is_box ?_; refine bx ?_) | (refine isl_load ?_; refine ldl ?_) | (refine isl_store ?_; refine srl ?_) | (refine isl_alloc ?_; refine all' ?_) | (refine isl_box ?_; refine bxl ?_))
  refine go_call rfl rfl (p_New w 9 (by omega) (by omega)) ?_
  rintro _ w1 ⟨p, q, rfl, ha1, hq1, hx1⟩
  have hl1 := ha1.lt
  repeat (first | refine sp ?_ | (refine is_load ?_; refine ld ?_) | (refine is_store ?_; refine sr ?_) | (refine is_alloc ?_; refine al ?_) | (refine is_box ?_; refine bx ?_) | (refine isl_load ?_; refine ldl ?_) | (refine isl_store ?_; refine srl ?_) | (refine isl_alloc ?_; refine all' ?_) | (refine isl_box ?_; refine bxl ?_))
  refine go_litG (l := [.int .i64 1, .int .i64 10]) rfl rfl (by decide) (by decide) rfl ?_
  repeat (first | refine sp ?_ | (refine is_load ?_; refine ld ?_) | (refine is_store ?_; refine sr ?_) | (refine is_alloc ?_; refine al ?_) | (refine is_box ?_; refine bx ?_) | (refine isl_load ?_; refine ldl ?_) | (refine isl_store ?_; refine srl ?_) | (refine isl_alloc ?_; refine all' ?_) | (refine isl_box ?_; refine bxl ?_))
  refine go_name (F := fun w2 => At w2 w1.heap.size ([((1 : Int), (10 : Int))].flatMap entC) 72 ∧ Ext w1 w2) ⟨by (repeat (first | assumption | (refine At.new' (by (first | omega | (simp; done) | (simp; omega))) _ _) | apply At.alloc | apply At.drewN | apply At.setRow | (apply At.setRow_neF; first | assumption | (apply Ne.symm; assumption) | omega) | (apply At.extF; assumption))), by (repeat (first | exact Fr.refl _ _ | assumption | apply Fr.drewN | apply Fr.alloc | (apply Fr.transF; assumption) | (refine Fr.setRow ?_ _ (by first | exact Or.inr (by (first | omega | (simp; done) | (simp; omega))) | (exact Or.inl (by first | assumption | (simp; done)))))))⟩ ?_
  rintro w2 ⟨hc2, hx2⟩
  have hs1 := hx1.size
  have hs2 := hx2.size
  refine go_call rfl rfl (c_PlantG 2 [(1, 10)] _ 0 w2 w.heap.size p q _ (by decide) (by decide) (by omega) (ha1.ext hx2) rfl (by show 0 + 1 ≤ 9; omega) (by omega) hq1 (hc2.rdF rfl fun h => by have := hl1 _ h; omega)) ?_
  rintro _ w3 ⟨B3, t3, q3, rfl, ha3, hp3, gr3⟩
  have hl3 := ha3.lt
  have hq3 := gr3.lo (by omega) hq1
  have hc3 : B3.cap = 9 := hp3.cap
  have hF3 : B3.fresh = 0 + 1 := hp3.fresh
  repeat (first | refine sp ?_ | (refine is_load ?_; refine ld ?_) | (refine is_store ?_; refine sr ?_) | (refine is_alloc ?_; refine al ?_) | (refine is_box ?_; refine bx ?_) | (refine isl_load ?_; refine ldl ?_) | (refine isl_store ?_; refine srl ?_) | (refine isl_alloc ?_; refine all' ?_) | (refine isl_box ?_; refine bxl ?_))
  refine go_litG (l := [.int .i64 1, .int .i64 10, .int .i64 2, .int .i64 0]) rfl rfl (by decide) (by decide) rfl ?_
  repeat (first | refine sp ?_ | (refine is_load ?_; refine ld ?_) | (refine is_store ?_; refine sr ?_) | (refine is_alloc ?_; refine al ?_) | (refine is_box ?_; refine bx ?_) | (refine isl_load ?_; refine ldl ?_) | (refine isl_store ?_; refine srl ?_) | (refine isl_alloc ?_; refine all' ?_) | (refine isl_box ?_; refine bxl ?_))
  refine go_name (F := fun w4 => At w4 w3.heap.size ([((1 : Int), (10 : Int)), (2, 0)].flatMap entC) 72 ∧ Ext w3 w4) ⟨by (repeat (first | assumption | (refine At.new' (by (first | omega | (simp; done) | (simp; omega))) _ _) | apply At.alloc | apply At.drewN | apply At.setRow | (apply At.setRow_neF; first | assumption | (apply Ne.symm; assumption) | omega) | (apply At.extF; assumption))), by (repeat (first | exact Fr.refl _ _ | assumption | apply Fr.drewN | apply Fr.alloc | (apply Fr.transF; assumption) | (refine Fr.setRow ?_ _ (by first | exact Or.inr (by (first | omega | (simp; done) | (simp; omega))) | (exact Or.inl (by first | assumption | (simp; done)))))))⟩ ?_
  rintro w4 ⟨hc4, hx4⟩
  have hs3 := gr3.fr.size
  have hs4 := hx4.size
  refine go_call rfl rfl (c_PlantG 3 [(1, 10), (2, 0)] _ 0 w4 w.heap.size p q3 _ (by decide) (by decide) (by omega) (ha3.ext hx4) hp3.rel (by show B3.fresh + 2 ≤ B3.cap; omega) (by omega) hq3 (hc4.rdF rfl fun h => by have := hl3 _ h; omega)) ?_
  rintro _ w5 ⟨B5, t5, q5, rfl, ha5, hp5, gr5⟩
  have hq5 := gr5.lo (by omega) hq3
  have hx5 : Ext w w5 := ((hx1.trans hx2).trans' gr3.fr fun x hx e => by have := hq1 x e; omega).trans' ((hx4.mono fun _ e => e.elim).trans gr5.fr) fun x hx e => by have := hq3 x e; omega
  have hi3 := hp5.keep ha3.wf hp3.inA
  have hi5 := hp5.inA
  have z3 : t3.sz = 1 := by rw [← t3.len, hp3.ent]; rfl
  have z5 : t5.sz = 2 := by rw [← t5.len, hp5.ent]; rfl
  have s3 : Srt t3.ents := by rw [hp3.ent]; simp [Srt]
  have s5 : Srt t5.ents := by rw [hp5.ent]; simp [Srt]
  have hp := hq5 p ha5.fpp
  have e1 : subB t3.ents t5.ents = true := by rw [hp3.ent, hp5.ent]; rfl
  have e2 : eqB t3.ents t5.ents = false := by rw [hp3.ent, hp5.ent]; rfl
  have e3 : cmpL t3.ents t5.ents = -1 := by rw [hp3.ent, hp5.ent]; rfl
  repeat (first | refine sp ?_ | (refine is_load ?_; refine ld ?_) | (refine is_store ?_; refine sr ?_) | (refine is_alloc ?_; refine al ?_) | (refine is_box ?_; refine bx ?_) | (refine isl_load ?_; refine ldl ?_) | (refine isl_store ?_; refine srl ?_) | (refine isl_alloc ?_; refine all' ?_) | (refine isl_box ?_; refine bxl ?_))
  refine go_call rfl rfl (q_Subset w5 w.heap.size p q5 B5 t3 t5 ha5 hi3 hi5 (by omega) (by omega) s3 s5) ?_
  rintro _ w6 ⟨rfl, B6, ha6, ⟨n6, hn6⟩, hf6⟩
  rw [e1]
  repeat (first | refine sp ?_ | (refine is_load ?_; refine ld ?_) | (refine is_store ?_; refine sr ?_) | (refine is_alloc ?_; refine al ?_) | (refine is_box ?_; refine bx ?_) | (refine isl_load ?_; refine ldl ?_) | (refine isl_store ?_; refine srl ?_) | (refine isl_alloc ?_; refine all' ?_) | (refine isl_box ?_; refine bxl ?_))
  refine go_call rfl rfl (q_Equal w6 w.heap.size p q5 B6 t3 t5 ha6 (hn6.inA hi3) (hn6.inA hi5) (by omega) (by omega)) ?_
  rintro _ w7 ⟨rfl, B7, ha7, ⟨n7, hn7⟩, hf7⟩
  rw [e2]
  repeat (first | refine sp ?_ | (refine is_load ?_; refine ld ?_) | (refine is_store ?_; refine sr ?_) | (refine is_alloc ?_; refine al ?_) | (refine is_box ?_; refine bx ?_) | (refine isl_load ?_; refine ldl ?_) | (refine isl_store ?_; refine srl ?_) | (refine isl_alloc ?_; refine all' ?_) | (refine isl_box ?_; refine bxl ?_))
  refine go_call rfl rfl (q_Compare w7 w.heap.size p q5 B7 t3 t5 ha7 (hn7.inA (hn6.inA hi3)) (hn7.inA (hn6.inA hi5)) (by omega) (by omega)) ?_
  rintro _ w8 ⟨rfl, B8, ha8, ⟨n8, hn8⟩, hf8⟩
  rw [e3]
  repeat (first | refine sp ?_ | (refine is_load ?_; refine ld ?_) | (refine is_store ?_; refine sr ?_) | (refine is_alloc ?_; refine al ?_) | (refine is_box ?_; refine bx ?_) | (refine isl_load ?_; refine ldl ?_) | (refine isl_store ?_; refine srl ?_) | (refine isl_alloc ?_; refine all' ?_) | (refine isl_box ?_; refine bxl ?_))
  exact go_ret1 rfl rfl ⟨_, rfl, rfl, hx5.trans' (hf6.trans (hf7.trans hf8)) fun x hx e => by omega⟩

set_option maxHeartbeats 4000000 in
theorem c_LawAgrees17 (rv ov : Value) (r o : List (Int × Int)) (tilt kind at' : Int) (w : World) (hr : Rd w 0 rv entC r) (ho : Rd w 0 ov entC o) (hri : InE r) (hoi : InE o) (hrl : r.length ≤ 9223372036854775807) (hol : o.length ≤ 9223372036854775807) (ht : 0 ≤ tilt ∧ tilt ≤ 18446744073709551615) (hk : 0 ≤ kind ∧ kind ≤ 255) (hat : -9223372036854775808 ≤ at' ∧ at' ≤ 9223372036854775807) :
    Calls Try.prog 6 [rv, ov, .int .u64 tilt, .int .u8 kind, .int .i64 at'].toArray w (Ret fun x w' => x = .bool true ∧ Ext w w') := by
  refine calls_go Try.func6 rfl Try.ntmps6 (Nat.le_of_ble_eq_true rfl) ?_
  repeat (first | refine sp ?_ | (refine is_load ?_; refine ld ?_) | (refine is_store ?_; refine sr ?_) | (refine is_alloc ?_; refine al ?_) | (refine is_box ?_; refine bx ?_) | (refine isl_load ?_; refine ldl ?_) | (refine isl_store ?_; refine srl ?_) | (refine isl_alloc ?_; refine all' ?_) | (refine isl_box ?_; refine bxl ?_))
  refine go_call rfl rfl (c_pair w rv ov r o tilt kind at' hr ho hri hoi hrl hol ht hk hat) ?_
  rintro _ w1 ⟨lo, p, q, B, t, u, a, b, lv, mv, rfl, g1, hre⟩
  repeat (first | refine sp ?_ | (refine is_load ?_; refine ld ?_) | (refine is_store ?_; refine sr ?_) | (refine is_alloc ?_; refine al ?_) | (refine is_box ?_; refine bx ?_) | (refine isl_load ?_; refine ldl ?_) | (refine isl_store ?_; refine srl ?_) | (refine isl_alloc ?_; refine all' ?_) | (refine isl_box ?_; refine bxl ?_))
  refine go_call rfl rfl (c_awake17 w1) ?_
  rintro _ w2 ⟨rfl, hx2⟩
  have g2 := g1.step hx2
  obtain ⟨zt, zu, za, zb⟩ := g2.ts
  obtain ⟨s1, c1, rfl, _, _⟩ := id g2.ra
  obtain ⟨s2, c2, rfl, _, _⟩ := id g2.rb
  have hpl := g2.ar.lt p g2.ar.fpp
  have sa : Srt t.ents := by rw [g2.et]; exact g2.oa.srt
  have sb : Srt u.ents := by rw [g2.eu]; exact g2.ob.srt
  have hst : Srt a := g2.oa.srt
  have hsu : Srt b := g2.ob.srt
  repeat (first | refine sp ?_ | (refine is_load ?_; refine ld ?_) | (refine is_store ?_; refine sr ?_) | (refine is_alloc ?_; refine al ?_) | (refine is_box ?_; refine bx ?_) | (refine isl_load ?_; refine ldl ?_) | (refine isl_store ?_; refine srl ?_) | (refine isl_alloc ?_; refine all' ?_) | (refine isl_box ?_; refine bxl ?_))
  refine go_call rfl rfl (p_Dump w2 lo p q B g2.ar) ?_
  rintro _ w3 ⟨hd3, hx3⟩
  have hd3b := hd3.b
  obtain ⟨d1, e1, d2, e2, rfl, _, _⟩ := hd3.b
  repeat (first | refine sp ?_ | (refine is_load ?_; refine ld ?_) | (refine is_store ?_; refine sr ?_) | (refine is_alloc ?_; refine al ?_) | (refine is_box ?_; refine bx ?_) | (refine isl_load ?_; refine ldl ?_) | (refine isl_store ?_; refine srl ?_) | (refine isl_alloc ?_; refine all' ?_) | (refine isl_box ?_; refine bxl ?_))
  refine go_name (F := fun w4 => At w4 w3.heap.size [.slice d1 B.dump.slots.length e1, .slice d2 B.dump.free.length e2] 45 ∧ Ext w3 w4) ⟨by (repeat (first | assumption | (refine At.new' (by (first | omega | (simp; done) | (simp; omega))) _ _) | apply At.alloc | apply At.drewN | apply At.setRow | (apply At.setRow_neF; first | assumption | (apply Ne.symm; assumption) | omega) | (apply At.extF; assumption))), by (repeat (first | exact Fr.refl _ _ | assumption | apply Fr.drewN | apply Fr.alloc | (apply Fr.transF; assumption) | (refine Fr.setRow ?_ _ (by first | exact Or.inr (by (first | omega | (simp; done) | (simp; omega))) | (exact Or.inl (by first | assumption | (simp; done)))))))⟩ ?_
  rintro w4 ⟨hb4, hx4⟩
  have hs3 := hx3.size
  have hl4 := hb4.lt
  have hnp : ¬ w3.heap.size = p := by omega
  have g4 := ((g2.step hx3).step hx4).step ((Fr.refl _ w4).drewN 1)
  refine go_drawE (Fr (fun x => x = p) w4) 0 Try.follows (by kernel_rfl) (by kernel_rfl) (by kernel_rfl) ((Fr.refl _ _).drewN 1) ?_
  have F4 : Fr (fun x => x = p) w4 (w4.drewN 1) := (Fr.refl _ _).drewN 1
  obtain ⟨w5, hw5⟩ : ∃ w5, w4.drewN 1 = w5 := ⟨_, rfl⟩
  rw [hw5] at g4 F4 ⊢
  repeat (first | refine sp ?_ | (refine is_load ?_; refine ld ?_) | (refine is_store ?_; refine sr ?_) | (refine is_alloc ?_; refine al ?_) | (refine is_box ?_; refine bx ?_) | (refine isl_load ?_; refine ldl ?_) | (refine isl_store ?_; refine srl ?_) | (refine isl_alloc ?_; refine all' ?_) | (refine isl_box ?_; refine bxl ?_))
  refine gol_call rfl rfl (q_Equal w5 lo p q B t u g4.ar g4.it g4.iu (by omega) (by omega)) ?_
  rintro _ w6 ⟨rfl, hR⟩
  obtain ⟨B6, g6, ⟨n6, hn6⟩, f6⟩ := g4.rd hR
  have F6 := F4.trans f6
  refine ⟨F6, ?_⟩
  rw [g4.et, g4.eu]
  repeat (first | refine sp ?_ | (refine is_load ?_; refine ld ?_) | (refine is_store ?_; refine sr ?_) | (refine is_alloc ?_; refine al ?_) | (refine is_box ?_; refine bx ?_) | (refine isl_load ?_; refine ldl ?_) | (refine isl_store ?_; refine srl ?_) | (refine isl_alloc ?_; refine all' ?_) | (refine isl_box ?_; refine bxl ?_))
  refine gol_call rfl rfl (c_SameB w6 lo lo _ _ a b g6.ra g6.rb (by omega) (by omega)) ?_
  rintro _ w7 ⟨rfl, x7⟩
  have F7 := F6.trans (Fr.of_ext x7)
  refine ⟨F7, ?_⟩
  have g7 := g6.step x7
  repeat (first | refine sp ?_ | (refine is_load ?_; refine ld ?_) | (refine is_store ?_; refine sr ?_) | (refine is_alloc ?_; refine al ?_) | (refine is_box ?_; refine bx ?_) | (refine isl_load ?_; refine ldl ?_) | (refine isl_store ?_; refine srl ?_) | (refine isl_alloc ?_; refine all' ?_) | (refine isl_box ?_; refine bxl ?_))
  refine go_as 47 (u' := .bool true) rfl (by simp) ?_
  repeat (first | refine sp ?_ | (refine is_load ?_; refine ld ?_) | (refine is_store ?_; refine sr ?_) | (refine is_alloc ?_; refine al ?_) | (refine is_box ?_; refine bx ?_) | (refine isl_load ?_; refine ldl ?_) | (refine isl_store ?_; refine srl ?_) | (refine isl_alloc ?_; refine all' ?_) | (refine isl_box ?_; refine bxl ?_))
  refine gol_call rfl rfl (q_Subset w7 lo p q B6 t u g7.ar g7.it g7.iu (by omega) (by omega) sa sb) ?_
  rintro _ w8 ⟨rfl, hR⟩
  obtain ⟨B8, g8, ⟨n8, hn8⟩, f8⟩ := g7.rd hR
  have F8 := F7.trans f8
  refine ⟨F8, ?_⟩
  rw [g4.et, g4.eu]
  repeat (first | refine sp ?_ | (refine is_load ?_; refine ld ?_) | (refine is_store ?_; refine sr ?_) | (refine is_alloc ?_; refine al ?_) | (refine is_box ?_; refine bx ?_) | (refine isl_load ?_; refine ldl ?_) | (refine isl_store ?_; refine srl ?_) | (refine isl_alloc ?_; refine all' ?_) | (refine isl_box ?_; refine bxl ?_))
  refine gol_call rfl rfl (c_refSubset w8 lo lo _ _ a b g8.ra g8.rb (by omega) (by omega) hsu) ?_
  rintro _ w9 ⟨rfl, e9⟩
  subst e9
  refine ⟨F8, ?_⟩
  repeat (first | refine sp ?_ | (refine is_load ?_; refine ld ?_) | (refine is_store ?_; refine sr ?_) | (refine is_alloc ?_; refine al ?_) | (refine is_box ?_; refine bx ?_) | (refine isl_load ?_; refine ldl ?_) | (refine isl_store ?_; refine srl ?_) | (refine isl_alloc ?_; refine all' ?_) | (refine isl_box ?_; refine bxl ?_))
  refine go_as 57 (u' := .bool true) rfl (by simp) ?_
  repeat (first | refine sp ?_ | (refine is_load ?_; refine ld ?_) | (refine is_store ?_; refine sr ?_) | (refine is_alloc ?_; refine al ?_) | (refine is_box ?_; refine bx ?_) | (refine isl_load ?_; refine ldl ?_) | (refine isl_store ?_; refine srl ?_) | (refine isl_alloc ?_; refine all' ?_) | (refine isl_box ?_; refine bxl ?_))
  refine gol_call rfl rfl (q_Subset _ lo p q B8 u t g8.ar g8.iu g8.it (by omega) (by omega) sb sa) ?_
  rintro _ w10 ⟨rfl, hR⟩
  obtain ⟨B10, g10, ⟨n10, hn10⟩, f10⟩ := g8.rd hR
  have F10 := F8.trans f10
  refine ⟨F10, ?_⟩
  rw [g4.et, g4.eu]
  repeat (first | refine sp ?_ | (refine is_load ?_; refine ld ?_) | (refine is_store ?_; refine sr ?_) | (refine is_alloc ?_; refine al ?_) | (refine is_box ?_; refine bx ?_) | (refine isl_load ?_; refine ldl ?_) | (refine isl_store ?_; refine srl ?_) | (refine isl_alloc ?_; refine all' ?_) | (refine isl_box ?_; refine bxl ?_))
  refine gol_call rfl rfl (c_refSubset w10 lo lo _ _ b a g10.rb g10.ra (by omega) (by omega) hst) ?_
  rintro _ w11 ⟨rfl, e11⟩
  subst e11
  refine ⟨F10, ?_⟩
  repeat (first | refine sp ?_ | (refine is_load ?_; refine ld ?_) | (refine is_store ?_; refine sr ?_) | (refine is_alloc ?_; refine al ?_) | (refine is_box ?_; refine bx ?_) | (refine isl_load ?_; refine ldl ?_) | (refine isl_store ?_; refine srl ?_) | (refine isl_alloc ?_; refine all' ?_) | (refine isl_box ?_; refine bxl ?_))
  refine go_as 67 (u' := .bool true) rfl (by simp) ?_
  repeat (first | refine sp ?_ | (refine is_load ?_; refine ld ?_) | (refine is_store ?_; refine sr ?_) | (refine is_alloc ?_; refine al ?_) | (refine is_box ?_; refine bx ?_) | (refine isl_load ?_; refine ldl ?_) | (refine isl_store ?_; refine srl ?_) | (refine isl_alloc ?_; refine all' ?_) | (refine isl_box ?_; refine bxl ?_))
  refine gol_call rfl rfl (q_Disjoint _ lo p q B10 t u g10.ar g10.it g10.iu (by omega) (by omega) sa sb) ?_
  rintro _ w12 ⟨rfl, hR⟩
  obtain ⟨B12, g12, ⟨n12, hn12⟩, f12⟩ := g10.rd hR
  have F12 := F10.trans f12
  refine ⟨F12, ?_⟩
  rw [g4.et, g4.eu]
  repeat (first | refine sp ?_ | (refine is_load ?_; refine ld ?_) | (refine is_store ?_; refine sr ?_) | (refine is_alloc ?_; refine al ?_) | (refine is_box ?_; refine bx ?_) | (refine isl_load ?_; refine ldl ?_) | (refine isl_store ?_; refine srl ?_) | (refine isl_alloc ?_; refine all' ?_) | (refine isl_box ?_; refine bxl ?_))
  refine gol_call rfl rfl (c_refInter w12 lo lo _ _ a b g12.ra g12.rb g12.low.1 g12.low.1 (by omega) (by omega)) ?_
  rintro iv w13 ⟨oi, x13⟩
  obtain ⟨si, ci, rfl, _, _⟩ := Own.slice oi
  have F13 := F12.trans (Fr.of_ext x13)
  refine ⟨F13, ?_⟩
  have g13 := g12.step x13
  have hdi := inter_dis (l := a) (m := b)
  generalize (a.filter fun e => (getE b e.1).isSome).length = m at *
  repeat (first | refine sp ?_ | (refine is_load ?_; refine ld ?_) | (refine is_store ?_; refine sr ?_) | (refine is_alloc ?_; refine al ?_) | (refine is_box ?_; refine bx ?_) | (refine isl_load ?_; refine ldl ?_) | (refine isl_store ?_; refine srl ?_) | (refine isl_alloc ?_; refine all' ?_) | (refine isl_box ?_; refine bxl ?_))
  trace_state
  refine go_as 79 (u' := .bool true) rfl (by
    cases hz : disB a b with
    | true => have := hdi.2 hz; subst this; rfl
    | false =>
      have : m ≠ 0 := fun e => by rw [hdi.1 e] at hz; cases hz
      simp [this]) ?_
  repeat (first | refine sp ?_ | (refine is_load ?_; refine ld ?_) | (refine is_store ?_; refine sr ?_) | (refine is_alloc ?_; refine al ?_) | (refine is_box ?_; refine bx ?_) | (refine isl_load ?_; refine ldl ?_) | (refine isl_store ?_; refine srl ?_) | (refine isl_alloc ?_; refine all' ?_) | (refine isl_box ?_; refine bxl ?_))
  refine gol_call rfl rfl (q_Compare _ lo p q B12 t u g13.ar g13.it g13.iu (by omega) (by omega)) ?_
  rintro _ w14 ⟨rfl, hR⟩
  obtain ⟨B14, g14, ⟨n14, hn14⟩, f14⟩ := g13.rd hR
  have F14 := F13.trans f14
  refine ⟨F14, ?_⟩
  rw [g4.et, g4.eu]
  repeat (first | refine sp ?_ | (refine is_load ?_; refine ld ?_) | (refine is_store ?_; refine sr ?_) | (refine is_alloc ?_; refine al ?_) | (refine is_box ?_; refine bx ?_) | (refine isl_load ?_; refine ldl ?_) | (refine isl_store ?_; refine srl ?_) | (refine isl_alloc ?_; refine all' ?_) | (refine isl_box ?_; refine bxl ?_))
  refine gol_call rfl rfl (c_refCompare w14 lo lo _ _ a b g14.ra g14.rb g14.low.1 g14.low.1 (by omega) (by omega)) ?_
  rintro _ w15 ⟨rfl, x15⟩
  have F15 := F14.trans (Fr.of_ext x15)
  refine ⟨F15, ?_⟩
  have g15 := g14.step x15
  repeat (first | refine sp ?_ | (refine is_load ?_; refine ld ?_) | (refine is_store ?_; refine sr ?_) | (refine is_alloc ?_; refine al ?_) | (refine is_box ?_; refine bx ?_) | (refine isl_load ?_; refine ldl ?_) | (refine isl_store ?_; refine srl ?_) | (refine isl_alloc ?_; refine all' ?_) | (refine isl_box ?_; refine bxl ?_))
  refine gol_call rfl rfl (p_Dump w15 lo p q B14 g15.ar) ?_
  rintro _ w16 ⟨hd16, x16⟩
  have F16 := F15.trans (Fr.of_ext x16)
  refine ⟨F16, ?_⟩
  have g16 := g15.step x16
  have hdl := dump_len g15.ar.wf
  have hde : B14.dump = B.dump := ((((hn6.trans hn8).trans hn10).trans hn12).trans hn14).dumpE
  rw [hde] at hd16 hdl
  obtain ⟨d3, e3, d4, e4, rfl, _, _⟩ := hd16.b
  have hd4 : DpAt w16 w2.heap.size (.agg ⟨[.slice d1 B.dump.slots.length e1, .slice d2 B.dump.free.length e2]⟩) B.dump := (hd3b.fr ((Fr.of_ext hx4).trans F16) (fun x h1 h2 e => by have := hx3.size; omega)).dp (by have := F16.size; omega)
  repeat (first | refine sp ?_ | (refine is_load ?_; refine ld ?_) | (refine is_store ?_; refine sr ?_) | (refine is_alloc ?_; refine al ?_) | (refine is_box ?_; refine bx ?_) | (refine isl_load ?_; refine ldl ?_) | (refine isl_store ?_; refine srl ?_) | (refine isl_alloc ?_; refine all' ?_) | (refine isl_box ?_; refine bxl ?_))
  refine gol_call rfl rfl (c_SameDump w16 _ _ _ _ B.dump hd16 hd4 hdl.1 hdl.2) ?_
  rintro _ w17 ⟨rfl, x17⟩
  refine ⟨F16.trans (Fr.of_ext x17), ?_⟩
  repeat (first | refine sp ?_ | (refine is_load ?_; refine ld ?_) | (refine is_store ?_; refine sr ?_) | (refine is_alloc ?_; refine al ?_) | (refine is_box ?_; refine bx ?_) | (refine isl_load ?_; refine ldl ?_) | (refine isl_store ?_; refine srl ?_) | (refine isl_alloc ?_; refine all' ?_) | (refine isl_box ?_; refine bxl ?_))
  exact go_ret1 rfl rfl ⟨_, rfl, rfl, g16.ext.trans x17⟩

end Go.Proofs.Yteghhalnpdikoaa
