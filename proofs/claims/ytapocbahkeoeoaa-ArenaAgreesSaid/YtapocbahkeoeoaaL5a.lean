/-
  The arena's example; the law 'size limit'.
-/
import Derived.Test.YtapocbahkeoeoaaS8
set_option linter.unusedVariables false
namespace Go.Proofs.Ytapocbahkeoeoaa
open Go.Vc

/-- What was there when the arena was made stays as it was. -/
theorem Fr.base {w0 w w' : World} {S : Nat → Prop} (h : Ext w0 w) (f : Fr S w w') (hS : ∀ b, S b → w0.heap.size ≤ b) : Ext w0 w' :=
  h.trans' f fun b hb hs => by have := hS b hs; omega

theorem c_awake (w : World) : Calls Try.prog 16 [].toArray w (Ret fun v w' => v = .bool true ∧ Ext w w') := by
  refine calls_go Try.func16 rfl Try.ntmps16 (Nat.le_of_ble_eq_true rfl) ?_
  repeat (first | refine sp ?_ | (refine is_load ?_; refine ld ?_) | (refine is_store ?_; refine sr ?_) | (refine is_alloc ?_; refine al ?_) | (refine is_box ?_; refine bx ?_) | (refine isl_load ?_; refine ldl ?_) | (refine isl_store ?_; refine srl ?_) | (refine isl_alloc ?_; refine all' ?_) | (refine isl_box ?_; refine bxl ?_) | refine dr Try.follows ?_)
  refine go_call rfl rfl (p_New w 3 (by omega) (by omega)) ?_
  rintro r w1 ⟨p, q, rfl, ha, hq, hx⟩
  repeat (first | refine sp ?_ | (refine is_load ?_; refine ld ?_) | (refine is_store ?_; refine sr ?_) | (refine is_alloc ?_; refine al ?_) | (refine is_box ?_; refine bx ?_) | (refine isl_load ?_; refine ldl ?_) | (refine isl_store ?_; refine srl ?_) | (refine isl_alloc ?_; refine all' ?_) | (refine isl_box ?_; refine bxl ?_) | refine dr Try.follows ?_)
  refine go_call rfl rfl (p_Make w1 _ p q _ 1 10 0 0 ha (by omega) (by omega)) ?_
  rintro r w2 ⟨rfl, q2, ha2, hq2, hf2⟩
  rw [show (AR.new 3).makeI 1 10 0 0 = 1 by decide +kernel, show (AR.new 3).makeE 1 10 0 0 = 0 by decide +kernel]
  have hx2 := Fr.base hx hf2 hq
  have hq2' : ∀ b, q2.fp b → w.heap.size ≤ b := fun b hb => by
    rcases hq2 b hb with h | h
    · exact hq b h
    · have := hx.size; omega
  repeat (first | refine sp ?_ | (refine is_load ?_; refine ld ?_) | (refine is_store ?_; refine sr ?_) | (refine is_alloc ?_; refine al ?_) | (refine is_box ?_; refine bx ?_) | (refine isl_load ?_; refine ldl ?_) | (refine isl_store ?_; refine srl ?_) | (refine isl_alloc ?_; refine all' ?_) | (refine isl_box ?_; refine bxl ?_) | refine dr Try.follows ?_)
  refine go_call rfl rfl (p_Make w2 _ p q2 _ 2 20 1 0 ha2 (by omega) (by omega)) ?_
  rintro r w3 ⟨rfl, q3, ha3, hq3, hf3⟩
  rw [show ((AR.new 3).make 1 10 0 0).makeI 2 20 1 0 = 2 by decide +kernel, show ((AR.new 3).make 1 10 0 0).makeE 2 20 1 0 = 0 by decide +kernel]
  have hx3 := Fr.base hx2 hf3 hq2'
  have hpb : w.heap.size ≤ p := hq p ha.fpp
  repeat (first | refine sp ?_ | (refine is_load ?_; refine ld ?_) | (refine is_store ?_; refine sr ?_) | (refine is_alloc ?_; refine al ?_) | (refine is_box ?_; refine bx ?_) | (refine isl_load ?_; refine ldl ?_) | (refine isl_store ?_; refine srl ?_) | (refine isl_alloc ?_; refine all' ?_) | (refine isl_box ?_; refine bxl ?_) | refine dr Try.follows ?_)
  refine go_call rfl rfl (p_Node w3 _ p q3 _ 2 ha3 (by omega)) ?_
  rintro r w4 ⟨rfl, ha4, hf4⟩
  rw [show (((AR.new 3).make 1 10 0 0).make 2 20 1 0).nodeOf 2 = ⟨2, 20, 1, 0, 2, 30, 10, 20⟩ by decide +kernel, show (((AR.new 3).make 1 10 0 0).make 2 20 1 0).used 2 = true by decide +kernel]
  have hx4 := Fr.base hx3 hf4 (fun b e => by subst e; exact hpb)
  repeat (first | refine sp ?_ | (refine is_load ?_; refine ld ?_) | (refine is_store ?_; refine sr ?_) | (refine is_alloc ?_; refine al ?_) | (refine is_box ?_; refine bx ?_) | (refine isl_load ?_; refine ldl ?_) | (refine isl_store ?_; refine srl ?_) | (refine isl_alloc ?_; refine all' ?_) | (refine isl_box ?_; refine bxl ?_) | refine dr Try.follows ?_)
  refine go_call rfl rfl (p_Count _ _ p q3 _ 1 (ha4.fr (S := fun b => b = w4.heap.size) (by (repeat (first | exact Fr.refl _ _ | assumption | apply Fr.drewN | apply Fr.alloc | (apply Fr.transF; assumption) | (refine Fr.setRow ?_ _ (by first | exact Or.inr (by (first | omega | (simp; done) | (simp; omega))) | (exact Or.inl (by first | assumption | (simp; done)))))))) ?_) (by omega)) ?_
  · intro b hb e
    have := ha4.lt b hb
    omega
  rintro r w5 ⟨rfl, hx5⟩
  rw [show ((((AR.new 3).make 1 10 0 0).make 2 20 1 0).read 2).countOf 1 = 2 by decide +kernel]
  repeat (first | refine sp ?_ | (refine is_load ?_; refine ld ?_) | (refine is_store ?_; refine sr ?_) | (refine is_alloc ?_; refine al ?_) | (refine is_box ?_; refine bx ?_) | (refine isl_load ?_; refine ldl ?_) | (refine isl_store ?_; refine srl ?_) | (refine isl_alloc ?_; refine all' ?_) | (refine isl_box ?_; refine bxl ?_) | refine dr Try.follows ?_)
  refine go_ret1 rfl rfl ⟨_, rfl, rfl, ?_⟩
  refine Fr.trans (w' := _) ?_ hx5
  refine Fr.setRow (hx4.alloc _) _ (Or.inr hx4.size)


/-! ### The size limit -/

/-- The state behind 'i' doublings. -/
structure Dbl (A : AR) (i : Nat) : Prop where
  cap : A.cap = 40
  rel : A.rel = []
  fresh : A.fresh = i
  on : 1 ≤ i → A.used i = true ∧ (A.node i).size = 2 ^ i - 1

theorem Dbl.mk_size {A : AR} {i : Nat} (h : Dbl A i) (hi : i ≤ 31) (k v : Int) : (mkN A k v i i).size = 2 * (2 ^ i - 1) + 1 := by
  have h2 : (2 : Int) ^ i ≤ 2 ^ 31 := by
    have : (2 : Nat) ^ i ≤ 2 ^ 31 := Nat.pow_le_pow_right (by decide) hi
    exact_mod_cast this
  have h1 : (1 : Int) ≤ 2 ^ i := by
    have : 1 ≤ (2 : Nat) ^ i := Nat.one_le_two_pow
    exact_mod_cast this
  unfold mkN
  rcases Nat.eq_zero_or_pos i with rfl | hp
  · simp [addC]
  · have hs := (h.on hp).2
    have h0 : i ≠ 0 := by omega
    simp only [addC, if_neg h0, hs]
    rw [w64_in (z := 1 + (2 ^ i - 1)) (by omega), w64_in (by omega)]
    omega

theorem Dbl.ok {A : AR} {i : Nat} (h : Dbl A i) (hi : i < 31) (k v : Int) : A.makeE k v i i = 0 ∧ A.makeI k v i i = i + 1 ∧ Dbl (A.make k v i i) (i + 1) := by
  have hs := h.mk_size (by omega) k v
  have h2 : (2 : Int) ^ i ≤ 2 ^ 30 := by
    have : (2 : Nat) ^ i ≤ 2 ^ 30 := Nat.pow_le_pow_right (by decide) (by omega)
    exact_mod_cast this
  have hf : A.free ≠ 0 := by unfold AR.free; rw [h.rel, h.cap, h.fresh]; simp; omega
  have htop : A.top = i + 1 := by unfold AR.top; rw [h.rel, h.fresh]; rfl
  have hE : A.makeE k v i i = 0 := by
    unfold AR.makeE
    rw [if_neg, if_neg hf]
    rintro (⟨a, b⟩ | ⟨a, b⟩ | hx)
    · have := (h.on (by omega)).1; rw [b] at this; cases this
    · have := (h.on (by omega)).1; rw [b] at this; cases this
    · rw [hs] at hx; omega
  refine ⟨hE, by unfold AR.makeI; rw [hE, htop]; rfl, ?_⟩
  have e : A.make k v i i = ((A.put (mkN A k v i i)).inc i).inc i := by unfold AR.make; rw [hE]; rfl
  rw [e]
  refine ⟨h.cap, ?_, ?_, fun _ => ⟨?_, ?_⟩⟩
  · show A.rel.dropLast = []; rw [h.rel]; rfl
  · show (if A.rel = [] then A.fresh + 1 else A.fresh) = i + 1; rw [if_pos h.rel, h.fresh]
  · show upd A.used A.top true (i + 1) = true; rw [htop, upd_same]
  · show (upd A.node A.top (mkN A k v i i) (i + 1)).size = 2 ^ (i + 1) - 1
    rw [htop, upd_same, hs, Int.pow_succ]; omega

theorem Dbl.full {A : AR} (h : Dbl A 31) (k v : Int) : A.makeE k v 31 31 = 1 ∧ A.makeI k v 31 31 = 0 ∧ A.make k v 31 31 = A := by
  have hs := h.mk_size (by omega) k v
  have hE : A.makeE k v 31 31 = 1 := by
    unfold AR.makeE
    rw [if_pos]
    right; right
    rw [hs]; decide
  exact ⟨hE, by unfold AR.makeI; rw [hE]; rfl, by unfold AR.make; rw [hE]; rfl⟩

set_option maxHeartbeats 1000000 in
theorem c_LawSizeLimit (v : Int) (w : World) : Calls Try.prog 3 [.int .i64 v].toArray w (Ret fun r w' => r = .bool true ∧ Ext w w') := by
  refine calls_go Try.func3 rfl Try.ntmps3 (Nat.le_of_ble_eq_true rfl) ?_
  repeat (first | refine sp ?_ | (refine is_load ?_; refine ld ?_) | (refine is_store ?_; refine sr ?_) | (refine is_alloc ?_; refine al ?_) | (refine is_box ?_; refine bx ?_) | (refine isl_load ?_; refine ldl ?_) | (refine isl_store ?_; refine srl ?_) | (refine isl_alloc ?_; refine all' ?_) | (refine isl_box ?_; refine bxl ?_) | refine dr Try.follows ?_)
  refine go_call rfl rfl (p_New w 40 (by omega) (by omega)) ?_
  rintro r w1 ⟨p, q, rfl, ha, hq, hx⟩
  have hpb : w.heap.size ≤ p := hq p ha.fpp
  repeat (first | refine sp ?_ | (refine is_load ?_; refine ld ?_) | (refine is_store ?_; refine sr ?_) | (refine is_alloc ?_; refine al ?_) | (refine is_box ?_; refine bx ?_) | (refine isl_load ?_; refine ldl ?_) | (refine isl_store ?_; refine srl ?_) | (refine isl_alloc ?_; refine all' ?_) | (refine isl_box ?_; refine bxl ?_) | refine dr Try.follows ?_)
  refine go_call rfl rfl (c_awake w1) ?_
  rintro r w2 ⟨rfl, hx2⟩
  repeat (first | refine sp ?_ | (refine is_load ?_; refine ld ?_) | (refine is_store ?_; refine sr ?_) | (refine is_alloc ?_; refine al ?_) | (refine is_box ?_; refine bx ?_) | (refine isl_load ?_; refine ldl ?_) | (refine isl_store ?_; refine srl ?_) | (refine isl_alloc ?_; refine all' ?_) | (refine isl_box ?_; refine bxl ?_) | refine dr Try.follows ?_)
  refine go_loop (G := Nat × AP × AR) [5, 6, 7] (fun ⟨i, _, _⟩ => [.int .u32 (i : Int), .int .i64 ((2 ^ i - 1 : Int)), .int .i64 (i : Int)]) [(0, .int .i64 v), (3, ptr p)]
    (fun g w' => g.1 ≤ 31 ∧ Dbl g.2.2 g.1 ∧ ArP w' w.heap.size p g.2.1 g.2.2 ∧ (∀ b, g.2.1.fp b → w.heap.size ≤ b) ∧ Ext w w') (fun g => 40 - g.1) (0, q, AR.new 40) rfl ⟨rfl, rfl, trivial⟩
    ⟨by simp, ⟨rfl, rfl, rfl, by simp⟩, ha.ext hx2, hq, hx.trans hx2⟩ ?_
  rintro ⟨i, q1, A⟩ w3 ⟨hi, hd, ha1, hq1, hx3⟩
  simp only at hi hd ha1 hq1
  have h2 : (2 : Int) ^ i ≤ 2 ^ 31 := by
    have : (2 : Nat) ^ i ≤ 2 ^ 31 := Nat.pow_le_pow_right (by decide) hi
    exact_mod_cast this
  have h1 : (1 : Int) ≤ 2 ^ i := by
    have : 1 ≤ (2 : Nat) ^ i := Nat.one_le_two_pow
    exact_mod_cast this
  repeat (first | refine sp ?_ | (refine is_load ?_; refine ld ?_) | (refine is_store ?_; refine sr ?_) | (refine is_alloc ?_; refine al ?_) | (refine is_box ?_; refine bx ?_) | (refine isl_load ?_; refine ldl ?_) | (refine isl_store ?_; refine srl ?_) | (refine isl_alloc ?_; refine all' ?_) | (refine isl_box ?_; refine bxl ?_) | refine dr Try.follows ?_)
  refine go_call rfl rfl (p_Make w3 _ p q1 A i v i i ha1 (by omega) (by omega)) ?_
  rintro r w4 ⟨rfl, q4, ha4, hq4, hf4⟩
  have hx4 := Fr.base hx3 hf4 hq1
  have hq4' : ∀ b, q4.fp b → w.heap.size ≤ b := fun b hb => by
    rcases hq4 b hb with h | h
    · exact hq1 b h
    · have := hx3.size; omega
  by_cases hlt : i < 31
  · obtain ⟨e1, e2, hd'⟩ := hd.ok hlt i v
    rw [e1, e2]
    have h3 : (2 : Int) ^ i ≤ 2 ^ 30 := by
      have : (2 : Nat) ^ i ≤ 2 ^ 30 := Nat.pow_le_pow_right (by decide) (by omega)
      exact_mod_cast this
    have hsz : (A.make i v i i).sizeOf (i + 1) = 2 * (2 ^ i - 1) + 1 := by
      have := hd'.on (by omega)
      unfold AR.sizeOf
      rw [if_pos this.1, this.2, Int.pow_succ]; omega
    repeat (first | refine sp ?_ | (refine is_load ?_; refine ld ?_) | (refine is_store ?_; refine sr ?_) | (refine is_alloc ?_; refine al ?_) | (refine is_box ?_; refine bx ?_) | (refine isl_load ?_; refine ldl ?_) | (refine isl_store ?_; refine srl ?_) | (refine isl_alloc ?_; refine all' ?_) | (refine isl_box ?_; refine bxl ?_) | refine dr Try.follows ?_)
    refine go_call rfl rfl (p_Size w4 _ p q4 _ (i + 1) ha4 (by omega)) ?_
    rintro r w5 ⟨rfl, ha5, hf5⟩
    rw [hsz]
    repeat (first | refine sp ?_ | (refine is_load ?_; refine ld ?_) | (refine is_store ?_; refine sr ?_) | (refine is_alloc ?_; refine al ?_) | (refine is_box ?_; refine bx ?_) | (refine isl_load ?_; refine ldl ?_) | (refine isl_store ?_; refine srl ?_) | (refine isl_alloc ?_; refine all' ?_) | (refine isl_box ?_; refine bxl ?_) | refine dr Try.follows ?_)
    refine go_as 6 (u' := .int .i64 ((2 ^ (i + 1) - 1 : Int))) rfl (by congr 1; rw [Int.pow_succ]; omega) ?_
    refine go_stop (G := Nat × AP × AR) (i + 1, q4, (A.make i v i i).read (i + 1)) rfl ⟨rfl, rfl, trivial⟩ ⟨hlt, ?_, ha5, hq4', Fr.base hx4 hf5 (fun b e => by subst e; exact hpb)⟩ (by show 40 - (i + 1) < 40 - i; omega)
    have hon := hd'.on (by omega)
    have : (A.make i v i i).read (i + 1) = { A.make i v i i with reads := ((A.make i v i i).reads + 1) % 18446744073709551616 } := by unfold AR.read; rw [if_pos hon.1]
    dsimp only
    rw [this]
    exact ⟨hd'.cap, hd'.rel, hd'.fresh, hd'.on⟩
  · obtain rfl : i = 31 := by omega
    obtain ⟨e1, e2, e3⟩ := hd.full (31 : Nat) v
    rw [e1, e2]
    rw [e3] at ha4
    repeat (first | refine sp ?_ | (refine is_load ?_; refine ld ?_) | (refine is_store ?_; refine sr ?_) | (refine is_alloc ?_; refine al ?_) | (refine is_box ?_; refine bx ?_) | (refine isl_load ?_; refine ldl ?_) | (refine isl_store ?_; refine srl ?_) | (refine isl_alloc ?_; refine all' ?_) | (refine isl_box ?_; refine bxl ?_) | refine dr Try.follows ?_)
    refine go_call rfl rfl (p_Free w4 _ p q4 _ ha4) ?_
    rintro r w5 ⟨rfl, hx5⟩
    have hfr : A.free = 9 := by unfold AR.free; rw [hd.rel, hd.cap, hd.fresh]; rfl
    rw [hfr]
    repeat (first | refine sp ?_ | (refine is_load ?_; refine ld ?_) | (refine is_store ?_; refine sr ?_) | (refine is_alloc ?_; refine al ?_) | (refine is_box ?_; refine bx ?_) | (refine isl_load ?_; refine ldl ?_) | (refine isl_store ?_; refine srl ?_) | (refine isl_alloc ?_; refine all' ?_) | (refine isl_box ?_; refine bxl ?_) | refine dr Try.follows ?_)
    exact go_ret1 rfl rfl ⟨_, rfl, rfl, hx4.trans hx5⟩

end Go.Proofs.Ytapocbahkeoeoaa
