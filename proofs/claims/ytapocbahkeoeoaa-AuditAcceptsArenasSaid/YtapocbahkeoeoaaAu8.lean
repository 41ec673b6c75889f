/-
  The audit accepts the dump of an arena.
-/
import Derived.Test.YtapocbahkeoeoaaAu7
set_option linter.unusedVariables false
namespace Go.Proofs.Ytapocbahkeoeoaa
open Go.Vc

theorem RL_pre (P : Nat → Bool) : ∀ {i n}, i ≤ n → ∃ t, RL P n = RL P i ++ t
  | i, 0, h => ⟨[], by have : i = 0 := by omega
                       subst this; simp⟩
  | i, n + 1, h => by
    by_cases e : i = n + 1
    · exact ⟨[], by rw [e]; simp⟩
    · obtain ⟨t, ht⟩ := RL_pre P (i := i) (n := n) (by omega)
      exact ⟨t ++ (if P n = true then [n + 1] else []), by simp only [RL]; rw [ht, List.append_assoc]⟩
theorem RL_at {P : Nat → Bool} {i n : Nat} (hi : i < n) (hp : P i = true) : (RL P n)[(RL P i).length]? = some (i + 1) := by
  obtain ⟨t, ht⟩ := RL_pre P (i := i + 1) (n := n) (by omega)
  have e : RL P (i + 1) = RL P i ++ [i + 1] := by simp only [RL]; rw [if_pos hp]
  rw [ht, e, List.append_assoc, List.getElem?_append_right (Nat.le_refl _)]
  simp
theorem Sound.marks {A : AR} {h : Nat → Nat} (s : Sound A h) {roots : List Nat} (hr : ∀ i, 1 ≤ i → roots.count i = h i) {P : Nat → Bool} (hP : Marks A.dump roots P) (j : Nat) (hj : j < A.cap) : P j = A.used (j + 1) := by
  have h1 := hP j (by rw [dump_slots]; exact hj)
  cases hu : A.used (j + 1) with
  | true => exact h1.2 (s.reach hr _ (j + 1) hu (Nat.le_refl _))
  | false =>
    cases e : P j with
    | false => rfl
    | true =>
      have := (h1.1 e).al
      rw [dump_al s.wf, hu] at this; cases this

set_option maxHeartbeats 8000000 in
theorem c_LawAccepts6 (cap : Int) (lv : Value) (l : List St6) (w : World) (h : Rd w 0 lv St6.cells l) (hw : ∀ s ∈ l, s.wf) (hlen : l.length ≤ 9223372036854775807) (hcp : -9223372036854775808 ≤ cap ∧ cap ≤ 9223372036854775807) :
    Calls Try.prog 14 [.int .i64 cap, lv].toArray w (Ret fun r w' => r = .bool true ∧ Ext w w') := by
  have m1 := Int.emod_nonneg cap (show (30 : Int) ≠ 0 by omega)
  have m2 := Int.emod_lt_of_pos cap (show (0 : Int) < 30 by omega)
  refine calls_go Try.func14 rfl Try.ntmps14 (Nat.le_of_ble_eq_true rfl) ?_
  repeat (first | refine sp ?_ | (refine is_load ?_; refine ld ?_) | (refine is_store ?_; refine sr ?_) | (refine is_alloc ?_; refine al ?_) | (refine is_box ?_; refine bx ?_) | (refine isl_load ?_; refine ldl ?_) | (refine isl_store ?_; refine srl ?_) | (refine isl_alloc ?_; refine all' ?_) | (refine isl_box ?_; refine bxl ?_) | refine dr Try.follows ?_)
  refine go_call rfl rfl (c_Mod cap 30 _ hcp (by omega)) ?_
  rintro _ w0 ⟨rfl, rfl⟩
  obtain ⟨n, hn⟩ : ∃ n : Nat, 1 + cap % 30 = (n : Int) := ⟨(1 + cap % 30).toNat, by omega⟩
  repeat (first | refine sp ?_ | (refine is_load ?_; refine ld ?_) | (refine is_store ?_; refine sr ?_) | (refine is_alloc ?_; refine al ?_) | (refine is_box ?_; refine bx ?_) | (refine isl_load ?_; refine ldl ?_) | (refine isl_store ?_; refine srl ?_) | (refine isl_alloc ?_; refine all' ?_) | (refine isl_box ?_; refine bxl ?_) | refine dr Try.follows ?_)
  refine go_as 14 (u' := .int .i64 (n : Int)) rfl (by rw [hn]) ?_
  refine go_call rfl rfl (c_build6 n lv l _ h hw hlen (by omega) (by omega)) ?_
  rintro _ w1 ⟨lo, lo2, p, q, A, hv, H, dv, hlo, rfl, g, hdp, hcap, hHl, hH1, hx1⟩
  obtain ⟨sv, fv, rfl, hs, hf⟩ := id hdp
  have hs' := hs.up
  obtain ⟨s1, c1, rfl, hc1, _, _⟩ := hs
  obtain ⟨s2, c2, rfl, hc2, _, _⟩ := hf
  obtain ⟨sa, ca, rfl, hca, _⟩ := g.ho.slice
  have hok := g.snd.dok
  have hhr := g.ho.up
  have hrb : ∀ x ∈ H, x < 4294967296 := fun x hx => by have := g.mem_le hx; omega
  repeat (first | refine sp ?_ | (refine is_load ?_; refine ld ?_) | (refine is_store ?_; refine sr ?_) | (refine is_alloc ?_; refine al ?_) | (refine is_box ?_; refine bx ?_) | (refine isl_load ?_; refine ldl ?_) | (refine isl_store ?_; refine srl ?_) | (refine isl_alloc ?_; refine all' ?_) | (refine isl_box ?_; refine bxl ?_) | refine dr Try.follows ?_)
  refine go_name (F := fun w2 => At w2 w1.heap.size [.slice s1 A.dump.slots.length c1, .slice s2 A.dump.free.length c2] 36 ∧ Ext w1 w2) ⟨by (repeat (first | assumption | (refine At.new' (by (first | omega | (simp; done) | (simp; omega))) _ _) | apply At.alloc | apply At.drewN | apply At.setRow | (apply At.setRow_neF; first | assumption | (apply Ne.symm; assumption) | omega) | (apply At.extF; assumption))), by (repeat (first | exact Fr.refl _ _ | assumption | apply Fr.drewN | apply Fr.alloc | (apply Fr.transF; assumption) | (refine Fr.setRow ?_ _ (by first | exact Or.inr (by (first | omega | (simp; done) | (simp; omega))) | (exact Or.inl (by first | assumption | (simp; done)))))))⟩ ?_
  rintro w2 ⟨hdb, hx2⟩
  refine go_call rfl rfl (c_awake6 w2) ?_
  rintro _ w3 ⟨rfl, hx3⟩
  replace hdb := hdb.ext hx3
  have hx13 := hx2.trans hx3
  repeat (first | refine sp ?_ | (refine is_load ?_; refine ld ?_) | (refine is_store ?_; refine sr ?_) | (refine is_alloc ?_; refine al ?_) | (refine is_box ?_; refine bx ?_) | (refine isl_load ?_; refine ldl ?_) | (refine isl_store ?_; refine srl ?_) | (refine isl_alloc ?_; refine all' ?_) | (refine isl_box ?_; refine bxl ?_) | refine dr Try.follows ?_)
  refine go_call rfl rfl (a_Reachable w3 lo2 w1.heap.size _ _ A.dump H (hdp.ext hx13) hok (hhr.ext hx13) hx13.size (by omega) hrb) ?_
  rintro r1 w4 ⟨P, hr1, hP, hx4⟩
  replace hdb := hdb.ext hx4
  have hx14 := hx13.trans hx4
  have hmk := g.snd.marks (fun i _ => rfl) hP
  have hRl := RL_len P A.dump.slots.length
  have hdl : A.dump.slots.length = n := by rw [dump_slots, hcap]
  obtain ⟨rs, rc, rfl, hrc, hrr⟩ := hr1.slice
  have hclean := g.snd.clean (fun i _ => rfl) hP
  clear hx2 hx3 hx4
  repeat (first | refine sp ?_ | (refine is_load ?_; refine ld ?_) | (refine is_store ?_; refine sr ?_) | (refine is_alloc ?_; refine al ?_) | (refine is_box ?_; refine bx ?_) | (refine isl_load ?_; refine ldl ?_) | (refine isl_store ?_; refine srl ?_) | (refine isl_alloc ?_; refine all' ?_) | (refine isl_box ?_; refine bxl ?_) | refine dr Try.follows ?_)
  refine go_loop (G := Nat) [10, 9] (fun i => [.int .i64 (i : Int), .int .i64 ((RL P i).length : Int)]) [(5, ptr w1.heap.size), (6, .slice sa H.length ca), (8, .slice rs (RL P A.dump.slots.length).length rc)]
    (fun i w' => i ≤ n ∧ At w' w1.heap.size [.slice s1 A.dump.slots.length c1, .slice s2 A.dump.free.length c2] 36 ∧ RdC w' rs ((RL P A.dump.slots.length).map fun (i : Nat) => Value.int .u32 (i : Int)) ∧ Ext w1 w') (fun i => n - i) 0 rfl ⟨rfl, rfl, rfl, trivial⟩ ⟨by omega, hdb, hrr, hx14⟩ ?_
  clear hdb hrr hx14
  rintro i w5 ⟨hi, hdb, hrr, hx5⟩
  have hil := RL_len P i
  by_cases hlt : i < n
  · have hil' : i < A.dump.slots.length := by omega
    obtain ⟨b, o, e, _, hcell⟩ := (hs'.ext hx5).at (m := 11) slt_len (by omega) hil'
    subst e
    have hon : A.dump.slots[i].on = A.used (i + 1) := by
      have := dump_get (A := A) (k := i) (by omega)
      rw [List.getElem?_eq_getElem hil'] at this
      rw [Option.some.inj this]; rfl
    have e0 := hcell 0 (.bool (A.used (i + 1))) (by rw [← hon]; rfl)
    have hp := hmk i (by omega)
    cases hu : A.used (i + 1) with
    | false =>
      rw [hu] at e0 hp
      have er : RL P (i + 1) = RL P i := by simp [RL, hp]
      repeat (first | refine sp ?_ | (refine is_load ?_; refine ld ?_) | (refine is_store ?_; refine sr ?_) | (refine is_alloc ?_; refine al ?_) | (refine is_box ?_; refine bx ?_) | (refine isl_load ?_; refine ldl ?_) | (refine isl_store ?_; refine srl ?_) | (refine isl_alloc ?_; refine all' ?_) | (refine isl_box ?_; refine bxl ?_) | refine dr Try.follows ?_)
      exact go_stop (G := Nat) (i + 1) (by rw [er]; rfl) ⟨rfl, rfl, rfl, trivial⟩ ⟨hlt, hdb, hrr, hx5⟩ (by show n - (i + 1) < n - i; omega)
    | true =>
      rw [hu] at e0 hp
      have er : (RL P (i + 1)).length = (RL P i).length + 1 := by simp [RL, hp]
      have hat := RL_at (n := A.dump.slots.length) hil' hp
      have hkl := (List.getElem?_eq_some_iff.1 hat).1
      obtain ⟨b3, o3, e3, hc3⟩ := hrr (RL P i).length (.int .u32 ((i + 1 : Nat) : Int)) (by rw [List.getElem?_map, hat]; rfl)
      subst e3
      repeat (first | refine sp ?_ | (refine is_load ?_; refine ld ?_) | (refine is_store ?_; refine sr ?_) | (refine is_alloc ?_; refine al ?_) | (refine is_box ?_; refine bx ?_) | (refine isl_load ?_; refine ldl ?_) | (refine isl_store ?_; refine srl ?_) | (refine isl_alloc ?_; refine all' ?_) | (refine isl_box ?_; refine bxl ?_) | refine dr Try.follows ?_)
      exact go_stop (G := Nat) (i + 1) (by rw [er]; rfl) ⟨rfl, rfl, rfl, trivial⟩ ⟨hlt, hdb, hrr, hx5⟩ (by show n - (i + 1) < n - i; omega)
  · obtain rfl : i = n := by omega
    have hxd : Ext w5 (w5.drewN 1) := (Fr.refl _ _).drewN 1
    rw [hdl]
    repeat (first | refine sp ?_ | (refine is_load ?_; refine ld ?_) | (refine is_store ?_; refine sr ?_) | (refine is_alloc ?_; refine al ?_) | (refine is_box ?_; refine bx ?_) | (refine isl_load ?_; refine ldl ?_) | (refine isl_store ?_; refine srl ?_) | (refine isl_alloc ?_; refine all' ?_) | (refine isl_box ?_; refine bxl ?_) | refine dr Try.follows ?_)
    refine go_call rfl rfl (a_Check w5 lo2 w1.heap.size _ _ A.dump H (hdp.ext hx5) hok (hhr.ext hx5) hx5.size (by omega) hrb) ?_
    rintro f1 w6 ⟨P2, lo3, hlo3, hf1, hP2, hx6⟩
    rw [g.snd.clean (fun i _ => rfl) hP2] at hf1
    unfold OwnF at hf1
    obtain ⟨f1s, f1c, rfl, _, _⟩ := hf1.slice
    repeat (first | refine sp ?_ | (refine is_load ?_; refine ld ?_) | (refine is_store ?_; refine sr ?_) | (refine is_alloc ?_; refine al ?_) | (refine is_box ?_; refine bx ?_) | (refine isl_load ?_; refine ldl ?_) | (refine isl_store ?_; refine srl ?_) | (refine isl_alloc ?_; refine all' ?_) | (refine isl_box ?_; refine bxl ?_) | refine dr Try.follows ?_)
    exact go_ret1 rfl rfl ⟨_, rfl, rfl, (hx1.trans hx5).trans hx6⟩

end Go.Proofs.Ytapocbahkeoeoaa
