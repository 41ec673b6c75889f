/-
  A balanced tree is planted in an arena.
-/
import Derived.Test.YteghhalnpdikoaaPv
import Derived.Test.YteghhalnpdikoaaRu
import Derived.Test.YteghhalnpdikoaaS9
set_option linter.unusedVariables false
namespace Go.Proofs.Yteghhalnpdikoaa
open Go.Vc

theorem wrap_u64_bd (z : Int) : 0 ≤ IntKind.u64.wrap z ∧ IntKind.u64.wrap z ≤ 18446744073709551615 := by
  simp [IntKind.wrap, IntKind.bits, IntKind.signed]
  omega

abbrev entC (e : Int × Int) : List Value := [.int .i64 e.1, .int .i64 e.2]

/-- A child is released that has another reference. -/
theorem p_RelKid (w : World) (lo p : Nat) (q : AP) (A : AR) (i : Nat) (h : ArP w lo p q A) (hlo : lo ≤ w.heap.size) (hi : i < 4294967296) (hu : i = 0 ∨ (A.used i = true ∧ 0 < (A.dec i).cnt i)) :
    Calls Try.prog 47 [ptr p, .int .u32 (i : Int)].toArray w (Ret fun r w' => r = .tuple #[.int .i64 0, .int .i64 0] ∧ ∃ q', ArP w' lo p q' (A.decC i) ∧ (∀ b, q'.fp b → q.fp b ∨ w.heap.size ≤ b) ∧ Fr q.fp w w') := by
  by_cases h0 : i = 0
  · subst h0
    refine (p_Release0 w p).mono ?_
    rintro _ w' ⟨v, rfl, rfl, rfl⟩
    exact ⟨_, rfl, rfl, q, h, fun b hb => Or.inl hb, Fr.refl _ _⟩
  · obtain ⟨h1, h2⟩ := hu.resolve_left h0
    have e : A.decC i = A.dec i := by unfold AR.decC; rw [if_neg h0]
    rw [e]
    refine (p_Release w lo p q A (A.dec i) i 1 0 h hlo hi h0 h1 ⟨i, [], rfl, h1, Or.inl ⟨h2, rfl, rfl, rfl⟩⟩ (by omega) (by omega)).mono ?_
    rintro _ w' ⟨v, rfl, rfl, hq⟩
    exact ⟨_, rfl, rfl, hq⟩

set_option maxHeartbeats 4000000 in
theorem c_Plant (m : Nat) : ∀ (l : List (Int × Int)) (lv : Value) (tilt : Int) (w : World) (lo p : Nat) (q : AP) (A : AR), l.length < m → l.length ≤ 1000 → (0 ≤ tilt ∧ tilt ≤ 18446744073709551615) → ArP w lo p q A → A.rel = [] → A.fresh + l.length ≤ A.cap → lo ≤ w.heap.size → (∀ b, q.fp b → lo ≤ b) → RdU w lo lv entC l →
    Calls Try.prog 15 [ptr p, lv, .int .u64 tilt].toArray w (Ret fun r w' => ∃ (B : AR) (t : Tr) (q' : AP), r = .tuple #[.int .u32 (t.root : Int), .bool true] ∧ ArP w' lo p q' B ∧ Plt A B t l ∧ (∀ b, q'.fp b → lo ≤ b) ∧ FrL lo w w') := by
  induction m with
  | zero => intro l _ _ _ _ _ _ _ h; omega
  | succ m ih =>
    intro l lv tilt w lo p q A hm hl ht ha hrel hcap hlo hq hr
    have hr0 := hr
    obtain ⟨sa, cap, rfl, hlc, _, _⟩ := hr0
    by_cases h0 : l.length = 0
    · obtain rfl : l = [] := List.eq_nil_of_length_eq_zero h0
      refine calls_go Try.func15 rfl Try.ntmps15 (Nat.le_of_ble_eq_true rfl) ?_
      repeat (first | refine sp ?_ | (refine is_load ?_; refine ld ?_) | (refine is_store ?_; refine sr ?_) | (refine is_alloc ?_; refine al ?_) | (refine is_box ?_; refine bx ?_) | (refine isl_load ?_; refine ldl ?_) | (refine isl_store ?_; refine srl ?_) | (refine isl_alloc ?_; refine all' ?_) | (refine isl_box ?_; refine bxl ?_) | refine dr Try.follows ?_)
      exact go_ret2 rfl rfl rfl ⟨_, rfl, A, .nil, q, rfl, ha, Plt.nil hrel, hq, by (repeat (first | exact Fr.refl _ _ | assumption | apply Fr.drewN | apply Fr.alloc | (apply Fr.transF; assumption) | (refine Fr.setRow ?_ _ (by first | exact Or.inr (by (first | omega | (simp; done) | (simp; omega))) | (exact Or.inl (by first | assumption | (simp; done)))))))⟩
    have hcapM := ha.wf.capM
    refine calls_go Try.func15 rfl Try.ntmps15 (Nat.le_of_ble_eq_true rfl) ?_
    repeat (first | refine sp ?_ | (refine is_load ?_; refine ld ?_) | (refine is_store ?_; refine sr ?_) | (refine is_alloc ?_; refine al ?_) | (refine is_box ?_; refine bx ?_) | (refine isl_load ?_; refine ldl ?_) | (refine isl_store ?_; refine srl ?_) | (refine isl_alloc ?_; refine all' ?_) | (refine isl_box ?_; refine bxl ?_) | refine dr Try.follows ?_)
    refine go_call rfl rfl (c_pivot l.length tilt w (by omega) (by omega) ht) ?_
    rintro _ w ⟨k, rfl, hk, hbal, rfl⟩
    have t1 := wrap_u64_bd (tilt / 5 + IntKind.u64.wrap (tilt * 3))
    have t2 := wrap_u64_bd (IntKind.u64.wrap (tilt / 7 + IntKind.u64.wrap (tilt * 5)) + 1)
    have hm2 : ∀ x : Int × Int, (entC x).length = 2 := fun _ => rfl
    repeat (first | refine sp ?_ | (refine is_load ?_; refine ld ?_) | (refine is_store ?_; refine sr ?_) | (refine is_alloc ?_; refine al ?_) | (refine is_box ?_; refine bx ?_) | (refine isl_load ?_; refine ldl ?_) | (refine isl_store ?_; refine srl ?_) | (refine isl_alloc ?_; refine all' ?_) | (refine isl_box ?_; refine bxl ?_) | refine dr Try.follows ?_)
    refine go_p rfl (pr_sl (lo := 0) (hi := k) (by decide) rfl rfl ⟨_, _, rfl, rfl⟩ (by omega) (by omega)) ?_
    repeat (first | refine sp ?_ | (refine is_load ?_; refine ld ?_) | (refine is_store ?_; refine sr ?_) | (refine is_alloc ?_; refine al ?_) | (refine is_box ?_; refine bx ?_) | (refine isl_load ?_; refine ldl ?_) | (refine isl_store ?_; refine srl ?_) | (refine isl_alloc ?_; refine all' ?_) | (refine isl_box ?_; refine bxl ?_) | refine dr Try.follows ?_)
    have r1 := hr.cut hm2 (by omega) (a := 0) (b := k) (by omega) (by omega)
    rw [List.drop_zero] at r1
    refine go_call rfl rfl (ih (l.take k) _ _ w lo p q A (by simp; omega) (by simp; omega) t1 ha hrel (by simp; omega) hlo hq r1) ?_
    rintro _ w1 ⟨B, tl, q1, rfl, ha1, hp1, hq1, hf1⟩
    have f1 := hp1.fresh
    have hlen1 : (l.take k).length = k := by simp; omega
    repeat (first | refine sp ?_ | (refine is_load ?_; refine ld ?_) | (refine is_store ?_; refine sr ?_) | (refine is_alloc ?_; refine al ?_) | (refine is_box ?_; refine bx ?_) | (refine isl_load ?_; refine ldl ?_) | (refine isl_store ?_; refine srl ?_) | (refine isl_alloc ?_; refine all' ?_) | (refine isl_box ?_; refine bxl ?_) | refine dr Try.follows ?_)
    refine go_p rfl (pr_sl (lo := k + 1) (hi := l.length) (by decide) rfl ⟨_, _, rfl, by omega⟩ rfl (by omega) (by omega)) ?_
    repeat (first | refine sp ?_ | (refine is_load ?_; refine ld ?_) | (refine is_store ?_; refine sr ?_) | (refine is_alloc ?_; refine al ?_) | (refine is_box ?_; refine bx ?_) | (refine isl_load ?_; refine ldl ?_) | (refine isl_store ?_; refine srl ?_) | (refine isl_alloc ?_; refine all' ?_) | (refine isl_box ?_; refine bxl ?_) | refine dr Try.follows ?_)
    have r2 := (hr.frL hf1).cut hm2 (by omega) (a := k + 1) (b := l.length) (by omega) (by omega)
    rw [List.take_length] at r2
    have hlen2 : (l.drop (k + 1)).length = l.length - (k + 1) := by simp
    have hc1 := hp1.cap
    refine go_call rfl rfl (ih (l.drop (k + 1)) _ _ w1 lo p q1 B (by omega) (by omega) t2 ha1 hp1.rel (by omega) (Nat.le_trans hlo hf1.size) hq1 r2) ?_
    rintro _ w2 ⟨C, tr, q2, rfl, ha2, hp2, hq2, hf2⟩
    have f2 := hp2.fresh
    have hc2 := hp2.cap
    obtain ⟨hE, hI, hL, hR, hP⟩ := Plt.make (k := l[k].1) (v := l[k].2) hp1 hp2 ha.wf ha1.wf ha2.wf (by omega) (by rw [hlen1, hlen2]; rwa [show l.length - 1 - k = l.length - (k + 1) by omega] at hbal)
    have hdec : l.take k ++ (l[k].1, l[k].2) :: l.drop (k + 1) = l := by
      show l.take k ++ l[k] :: l.drop (k + 1) = l
      rw [← List.drop_eq_getElem_cons hk, List.take_append_drop]
    rw [hdec] at hP
    have hf12 := hf1.trans hf2
    obtain ⟨b, o, hsa, hbl, hcell⟩ := (hr.frL hf12).at hm2 (by omega) hk
    subst hsa
    have e0 := hcell 0 (.int .i64 l[k].1) rfl
    have e1 := hcell 1 (.int .i64 l[k].2) rfl
    have hbq : ¬ lo ≤ b := by omega
    have hcM2 := ha2.wf.capM
    have hfr2 := ha2.wf.fr
    have bl : tl.root ≤ 65536 := by rcases hp1.rt with e | e <;> omega
    have br : tr.root ≤ 65536 := by rcases hp2.rt with e | e <;> omega
    generalize l[k] = x at *
    repeat (first | refine sp ?_ | (refine is_load ?_; refine ld ?_) | (refine is_store ?_; refine sr ?_) | (refine is_alloc ?_; refine al ?_) | (refine is_box ?_; refine bx ?_) | (refine isl_load ?_; refine ldl ?_) | (refine isl_store ?_; refine srl ?_) | (refine isl_alloc ?_; refine all' ?_) | (refine isl_box ?_; refine bxl ?_))
    (refine go_draw (Fr (fun b => lo ≤ b) w2) Try.follows (by kernel_rfl) (by kernel_rfl) ?_ ?_)
    · exact (Fr.refl _ _).drewN 1
    repeat (first | refine sp ?_ | (refine is_load ?_; refine ld ?_) | (refine is_store ?_; refine sr ?_) | (refine is_alloc ?_; refine al ?_) | (refine is_box ?_; refine bx ?_) | (refine isl_load ?_; refine ldl ?_) | (refine isl_store ?_; refine srl ?_) | (refine isl_alloc ?_; refine all' ?_) | (refine isl_box ?_; refine bxl ?_))
    have hlo2 := Nat.le_trans hlo hf12.size
    refine gol_call rfl rfl (p_Make _ lo p q2 C x.1 x.2 tl.root tr.root (ha2.ext (by (repeat (first | exact Fr.refl _ _ | assumption | apply Fr.drewN | apply Fr.alloc | (apply Fr.transF; assumption) | (refine Fr.setRow ?_ _ (by first | exact Or.inr (by (first | omega | (simp; done) | (simp; omega))) | (exact Or.inl (by first | assumption | (simp; done))))))))) (by omega) (by omega)) ?_
    rintro _ w3 ⟨rfl, q3, ha3, hq3, hf3⟩
    rw [hE, hI]
    have hf3' : FrL lo w2 w3 := Fr.trans ((Fr.refl _ _).drewN 1) (hf3.mono hq2)
    have hq3' : ∀ b, q3.fp b → lo ≤ b := fun b hb => by
      rcases hq3 b hb with h | h
      · exact hq2 b h
      · have : w2.heap.size ≤ b := h; omega
    refine ⟨hf3', ?_⟩
    repeat (first | refine sp ?_ | (refine is_load ?_; refine ld ?_) | (refine is_store ?_; refine sr ?_) | (refine is_alloc ?_; refine al ?_) | (refine is_box ?_; refine bx ?_) | (refine isl_load ?_; refine ldl ?_) | (refine isl_store ?_; refine srl ?_) | (refine isl_alloc ?_; refine all' ?_) | (refine isl_box ?_; refine bxl ?_) | refine dr Try.follows ?_)
    refine go_call rfl rfl (p_RelKid w3 lo p q3 _ tl.root ha3 (Nat.le_trans hlo2 hf3'.size) (by omega) hL) ?_
    rintro _ w4 ⟨rfl, q4, ha4, hq4, hf4⟩
    have hf4' : FrL lo w3 w4 := hf4.mono hq3'
    have hlo3 := Nat.le_trans hlo2 hf3'.size
    have hq4' : ∀ b, q4.fp b → lo ≤ b := fun b hb => by
      rcases hq4 b hb with h | h
      · exact hq3' b h
      · omega
    repeat (first | refine sp ?_ | (refine is_load ?_; refine ld ?_) | (refine is_store ?_; refine sr ?_) | (refine is_alloc ?_; refine al ?_) | (refine is_box ?_; refine bx ?_) | (refine isl_load ?_; refine ldl ?_) | (refine isl_store ?_; refine srl ?_) | (refine isl_alloc ?_; refine all' ?_) | (refine isl_box ?_; refine bxl ?_) | refine dr Try.follows ?_)
    refine go_call rfl rfl (p_RelKid w4 lo p q4 _ tr.root ha4 (Nat.le_trans hlo3 hf4'.size) (by omega) hR) ?_
    rintro _ w5 ⟨rfl, q5, ha5, hq5, hf5⟩
    have hf5' : FrL lo w4 w5 := hf5.mono hq4'
    have hlo4 := Nat.le_trans hlo3 hf4'.size
    have hq5' : ∀ b, q5.fp b → lo ≤ b := fun b hb => by
      rcases hq5 b hb with h | h
      · exact hq4' b h
      · omega
    repeat (first | refine sp ?_ | (refine is_load ?_; refine ld ?_) | (refine is_store ?_; refine sr ?_) | (refine is_alloc ?_; refine al ?_) | (refine is_box ?_; refine bx ?_) | (refine isl_load ?_; refine ldl ?_) | (refine isl_store ?_; refine srl ?_) | (refine isl_alloc ?_; refine all' ?_) | (refine isl_box ?_; refine bxl ?_) | refine dr Try.follows ?_)
    exact go_ret2 rfl rfl rfl ⟨_, rfl, _, _, q5, rfl, ha5, hP, hq5', ((hf12.trans hf3').trans hf4').trans hf5'⟩

set_option maxHeartbeats 1000000 in
theorem c_Grow (l : List (Int × Int)) (lv : Value) (tilt : Int) (w : World) (s : Nat) (hl : l.length ≤ 1000) (hs : 1 ≤ s) (hs2 : s ≤ 1000) (ht : 0 ≤ tilt ∧ tilt ≤ 18446744073709551615) (hr : RdU w w.heap.size lv entC l) :
    Calls Try.prog 39 [lv, .int .u64 tilt, .int .i64 (s : Int)].toArray w (Ret fun r w' => ∃ (p : Nat) (q : AP) (B : AR) (t : Tr), r = .tuple #[ptr p, .int .u32 (t.root : Int), .bool true] ∧ ArP w' w.heap.size p q B ∧ Plt (AR.new (l.length + s)) B t l ∧ (∀ b, q.fp b → w.heap.size ≤ b) ∧ Ext w w') := by
  have hr0 := hr
  obtain ⟨sa, cap, rfl, hlc, _, _⟩ := hr0
  refine calls_go Try.func39 rfl Try.ntmps39 (Nat.le_of_ble_eq_true rfl) ?_
  repeat (first | refine sp ?_ | (refine is_load ?_; refine ld ?_) | (refine is_store ?_; refine sr ?_) | (refine is_alloc ?_; refine al ?_) | (refine is_box ?_; refine bx ?_) | (refine isl_load ?_; refine ldl ?_) | (refine isl_store ?_; refine srl ?_) | (refine isl_alloc ?_; refine all' ?_) | (refine isl_box ?_; refine bxl ?_) | refine dr Try.follows ?_)
  refine go_as 17 (u' := .int .i64 ((l.length + s : Nat) : Int)) rfl (by congr 1) ?_
  refine go_call rfl rfl (p_New w (l.length + s) (by omega) (by omega)) ?_
  rintro _ w1 ⟨p, q, rfl, ha, hq, hx⟩
  repeat (first | refine sp ?_ | (refine is_load ?_; refine ld ?_) | (refine is_store ?_; refine sr ?_) | (refine is_alloc ?_; refine al ?_) | (refine is_box ?_; refine bx ?_) | (refine isl_load ?_; refine ldl ?_) | (refine isl_store ?_; refine srl ?_) | (refine isl_alloc ?_; refine all' ?_) | (refine isl_box ?_; refine bxl ?_) | refine dr Try.follows ?_)
  refine go_call rfl rfl (c_Plant (l.length + 1) l _ tilt w1 w.heap.size p q _ (by omega) (by omega) ht ha rfl (by show 0 + l.length ≤ l.length + s; omega) hx.size hq (hr.ext hx)) ?_
  rintro _ w2 ⟨B, t, q2, rfl, ha2, hp2, hq2, hf2⟩
  repeat (first | refine sp ?_ | (refine is_load ?_; refine ld ?_) | (refine is_store ?_; refine sr ?_) | (refine is_alloc ?_; refine al ?_) | (refine is_box ?_; refine bx ?_) | (refine isl_load ?_; refine ldl ?_) | (refine isl_store ?_; refine srl ?_) | (refine isl_alloc ?_; refine all' ?_) | (refine isl_box ?_; refine bxl ?_) | refine dr Try.follows ?_)
  exact go_ret3 rfl rfl rfl rfl ⟨_, rfl, p, q2, B, t, rfl, ha2, hp2, hq2, hx.trans' hf2 fun b hb e => by omega⟩

end Go.Proofs.Yteghhalnpdikoaa
