/-
  The example of chapter 11; the laws on summaries of lists.
-/
import Derived.Test.YtklgmomhdlhajaaSo
import Derived.Test.YtklgmomhdlhajaaMod
set_option linter.unusedVariables false
namespace Go.Proofs.Ytklgmomhdlhajaa
open Go.Vc

set_option maxHeartbeats 1000000 in
theorem c_awake11 (w : World) : Calls Try.prog 14 [].toArray w (Ret fun v w' => v = .bool true ∧ Ext w w') := by
  refine calls_go Try.func14 rfl Try.ntmps14 (Nat.le_of_ble_eq_true rfl) ?_
  repeat (first | refine sp ?_ | (refine is_load ?_; refine ld ?_) | (refine is_store ?_; refine sr ?_) | (refine is_alloc ?_; refine al ?_) | (refine is_box ?_; refine bx ?_) | (refine isl_load ?_; refine ldl ?_) | (refine isl_store ?_; refine srl ?_) | (refine isl_alloc ?_; refine all' ?_) | (refine isl_box ?_; refine bxl ?_) | refine dr Try.follows ?_)
  refine go_litG (l := [.int .i64 1, .int .i64 10, .int .i64 4, .int .i64 (-3), .int .i64 9, .int .i64 5]) rfl rfl (by decide) (by decide) rfl ?_
  have hrd : Rd (w.alloc (.cells [Value.int .i64 1, .int .i64 10, .int .i64 4, .int .i64 (-3), .int .i64 9, .int .i64 5].toArray 53)) 0 (.slice (some ⟨w.heap.size, 0, none⟩) 3 3) entC [(1, 10), (4, -3), (9, 5)] :=
    At.rd (At.new w _ _) rfl (Nat.zero_le _)
  have hx0 : Ext w (w.alloc (.cells [Value.int .i64 1, .int .i64 10, .int .i64 4, .int .i64 (-3), .int .i64 9, .int .i64 5].toArray 53)) := by (repeat (first | exact Fr.refl _ _ | assumption | apply Fr.drewN | apply Fr.alloc | (apply Fr.transF; assumption) | (refine Fr.setRow ?_ _ (by first | exact Or.inr (by (first | omega | (simp; done) | (simp; omega))) | (exact Or.inl (by first | assumption | (simp; done)))))))
  refine go_call rfl rfl (c_Grow [(1, 10), (4, -3), (9, 5)] _ 0 _ 1 (by simp) (by omega) (by omega) (by omega) hrd.up) ?_
  rintro _ w1 ⟨p, q, B, t, rfl, ha, hp, hq, hx⟩
  have hen := hp.ent
  have hsz := hp.szT
  have hie : InE t.ents := by
    rw [hen]; intro e he
    simp only [List.mem_cons, List.not_mem_nil, or_false] at he
    rcases he with rfl | rfl | rfl <;> exact ⟨⟨by decide, by decide⟩, ⟨by decide, by decide⟩⟩
  have hso : Srt t.ents := by rw [hen]; simp [Srt]
  have hx1 := hx0.trans hx
  have hl1 := hx1.size
  repeat (first | refine sp ?_ | (refine is_load ?_; refine ld ?_) | (refine is_store ?_; refine sr ?_) | (refine is_alloc ?_; refine al ?_) | (refine is_box ?_; refine bx ?_) | (refine isl_load ?_; refine ldl ?_) | (refine isl_store ?_; refine srl ?_) | (refine isl_alloc ?_; refine all' ?_) | (refine isl_box ?_; refine bxl ?_) | refine dr Try.follows ?_)
  refine go_call rfl rfl (c_Range w1 _ p q B t 2 9 ha hp.inA hie hso (by rw [hsz]; simp) (hp.inA.rootlt ha.wf)) ?_
  rintro _ w2 ⟨rfl, B2, ha2, hB2, hf2⟩
  have hx2 := hx1.trans' hf2 fun b hb e => by have := hq p ha.fpp; have := hx0.size; omega
  rw [show (smF (rngP 2 9) t.ents).cells = [.int .i64 2, .int .i64 2, .int .i64 (-3), .int .i64 5] by rw [hen]; rfl]
  repeat (first | refine sp ?_ | (refine is_load ?_; refine ld ?_) | (refine is_store ?_; refine sr ?_) | (refine is_alloc ?_; refine al ?_) | (refine is_box ?_; refine bx ?_) | (refine isl_load ?_; refine ldl ?_) | (refine isl_store ?_; refine srl ?_) | (refine isl_alloc ?_; refine all' ?_) | (refine isl_box ?_; refine bxl ?_) | refine dr Try.follows ?_)
  refine go_call rfl rfl (c_Prefix w2 _ p q B2 t 1 ha2 (hB2.inA hp.inA) hie (by rw [hsz]; simp) ⟨by decide, by decide⟩) ?_
  rintro _ w3 ⟨rfl, B3, ha3, hB3, hf3⟩
  have hx3 := hx2.trans' hf3 fun b hb e => by have := hq p ha.fpp; have := hx0.size; omega
  rw [show (tk t.ents 1).cells = [.int .i64 1, .int .i64 10, .int .i64 10, .int .i64 10] by rw [hen]; rfl]
  repeat (first | refine sp ?_ | (refine is_load ?_; refine ld ?_) | (refine is_store ?_; refine sr ?_) | (refine is_alloc ?_; refine al ?_) | (refine is_box ?_; refine bx ?_) | (refine isl_load ?_; refine ldl ?_) | (refine isl_store ?_; refine srl ?_) | (refine isl_alloc ?_; refine all' ?_) | (refine isl_box ?_; refine bxl ?_) | refine dr Try.follows ?_)
  exact go_ret1 rfl rfl ⟨_, rfl, rfl, hx3⟩

theorem sm_eq (a b c d : Int) : eqL [.int .i64 a, .int .i64 b, .int .i64 c, .int .i64 d] [.int .i64 a, .int .i64 b, .int .i64 c, .int .i64 d] = true := by simp [eqL]

set_option maxHeartbeats 1000000 in
theorem c_LawOf (lv : Value) (l : List (Int × Int)) (w : World) (h : Rd w 0 lv entC l) (he : InE l) :
    Calls Try.prog 5 [lv].toArray w (Ret fun v w' => v = .bool true ∧ Ext w w') := by
  have h0 := h
  obtain ⟨sa, cap, hlv, hlc, _, _⟩ := h0
  subst hlv
  refine calls_go Try.func5 rfl Try.ntmps5 (Nat.le_of_ble_eq_true rfl) ?_
  by_cases h3 : 300 < l.length
  · repeat (first | refine sp ?_ | (refine is_load ?_; refine ld ?_) | (refine is_store ?_; refine sr ?_) | (refine is_alloc ?_; refine al ?_) | (refine is_box ?_; refine bx ?_) | (refine isl_load ?_; refine ldl ?_) | (refine isl_store ?_; refine srl ?_) | (refine isl_alloc ?_; refine all' ?_) | (refine isl_box ?_; refine bxl ?_) | refine dr Try.follows ?_)
    refine go_call rfl rfl (c_awake11 w) ?_
    rintro _ w1 ⟨rfl, hx1⟩
    repeat (first | refine sp ?_ | (refine is_load ?_; refine ld ?_) | (refine is_store ?_; refine sr ?_) | (refine is_alloc ?_; refine al ?_) | (refine is_box ?_; refine bx ?_) | (refine isl_load ?_; refine ldl ?_) | (refine isl_store ?_; refine srl ?_) | (refine isl_alloc ?_; refine all' ?_) | (refine isl_box ?_; refine bxl ?_) | refine dr Try.follows ?_)
    exact go_ret1 rfl rfl ⟨_, rfl, rfl, hx1⟩
  · repeat (first | refine sp ?_ | (refine is_load ?_; refine ld ?_) | (refine is_store ?_; refine sr ?_) | (refine is_alloc ?_; refine al ?_) | (refine is_box ?_; refine bx ?_) | (refine isl_load ?_; refine ldl ?_) | (refine isl_store ?_; refine srl ?_) | (refine isl_alloc ?_; refine all' ?_) | (refine isl_box ?_; refine bxl ?_) | refine dr Try.follows ?_)
    refine go_call rfl rfl (c_awake11 w) ?_
    rintro _ w1 ⟨rfl, hx1⟩
    repeat (first | refine sp ?_ | (refine is_load ?_; refine ld ?_) | (refine is_store ?_; refine sr ?_) | (refine is_alloc ?_; refine al ?_) | (refine is_box ?_; refine bx ?_) | (refine isl_load ?_; refine ldl ?_) | (refine isl_store ?_; refine srl ?_) | (refine isl_alloc ?_; refine all' ?_) | (refine isl_box ?_; refine bxl ?_) | refine dr Try.follows ?_)
    refine go_call rfl rfl (c_SOf w1 w.heap.size _ l (h.up.ext hx1) hx1.size he (by omega)) ?_
    rintro _ w2 ⟨rfl, hx2⟩
    have hx2' := hx1.trans hx2
    repeat (first | refine sp ?_ | (refine is_load ?_; refine ld ?_) | (refine is_store ?_; refine sr ?_) | (refine is_alloc ?_; refine al ?_) | (refine is_box ?_; refine bx ?_) | (refine isl_load ?_; refine ldl ?_) | (refine isl_store ?_; refine srl ?_) | (refine isl_alloc ?_; refine all' ?_) | (refine isl_box ?_; refine bxl ?_) | refine dr Try.follows ?_)
    refine go_call rfl rfl (c_Summarize w2 w.heap.size _ l (h.up.ext hx2') hx2'.size he (by omega)) ?_
    rintro _ w3 ⟨rfl, hx3⟩
    generalize smy (l.map (·.2)) = s
    unfold Sm.cells
    repeat (first | refine sp ?_ | (refine is_load ?_; refine ld ?_) | (refine is_store ?_; refine sr ?_) | (refine is_alloc ?_; refine al ?_) | (refine is_box ?_; refine bx ?_) | (refine isl_load ?_; refine ldl ?_) | (refine isl_store ?_; refine srl ?_) | (refine isl_alloc ?_; refine all' ?_) | (refine isl_box ?_; refine bxl ?_) | refine dr Try.follows ?_)
    exact go_ret1 rfl rfl ⟨_, rfl, by rw [sm_eq], hx2'.trans hx3⟩

end Go.Proofs.Ytklgmomhdlhajaa
