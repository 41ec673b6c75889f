/-
  The example of chapter 10; counts add up.
-/
import Derived.Test.YtgafapifpoinlaaTa
import Derived.Test.YtgafapifpoinlaaRk
set_option linter.unusedVariables false
namespace Go.Proofs.Ytgafapifpoinlaa
open Go.Vc

set_option maxHeartbeats 1000000 in
theorem c_awake10 (w : World) : Calls Try.prog 16 [].toArray w (Ret fun v w' => v = .bool true ∧ Ext w w') := by
  refine calls_go Try.func16 rfl Try.ntmps16 (Nat.le_of_ble_eq_true rfl) ?_
  repeat (first | refine sp ?_ | (refine is_load ?_; refine ld ?_) | (refine is_store ?_; refine sr ?_) | (refine is_alloc ?_; refine al ?_) | (refine is_box ?_; refine bx ?_) | (refine isl_load ?_; refine ldl ?_) | (refine isl_store ?_; refine srl ?_) | (refine isl_alloc ?_; refine all' ?_) | (refine isl_box ?_; refine bxl ?_) | refine dr Try.follows ?_)
  refine go_litG (l := [.int .i64 1, .int .i64 0, .int .i64 4, .int .i64 0, .int .i64 9, .int .i64 0]) rfl rfl (by decide) (by decide) rfl ?_
  have hrd : Rd (w.alloc (.cells [Value.int .i64 1, .int .i64 0, .int .i64 4, .int .i64 0, .int .i64 9, .int .i64 0].toArray 35)) 0 (.slice (some ⟨w.heap.size, 0, none⟩) 3 3) entC [(1, 0), (4, 0), (9, 0)] :=
    At.rd (At.new w _ _) rfl (Nat.zero_le _)
  have hx0 : Ext w (w.alloc (.cells [Value.int .i64 1, .int .i64 0, .int .i64 4, .int .i64 0, .int .i64 9, .int .i64 0].toArray 35)) := by (repeat (first | exact Fr.refl _ _ | assumption | apply Fr.drewN | apply Fr.alloc | (apply Fr.transF; assumption) | (refine Fr.setRow ?_ _ (by first | exact Or.inr (by (first | omega | (simp; done) | (simp; omega))) | (exact Or.inl (by first | assumption | (simp; done)))))))
  have hok : OkL [(1, 0), (4, 0), (9, 0)] 3 := ⟨by simp [Srt], (by
    intro e he
    simp only [List.mem_cons, List.not_mem_nil, or_false] at he
    rcases he with rfl | rfl | rfl <;> exact ⟨⟨by decide, by decide⟩, ⟨by decide, by decide⟩⟩), by simp⟩
  refine go_call rfl rfl (c_GrowT w _ [(1, 0), (4, 0), (9, 0)] 3 _ 0 1 hrd.up hok (by omega) (by omega) (by omega) (by omega) hx0) ?_
  rintro _ w1 ⟨lo, p, q, B, t, rfl, g, hen, hsz, hre, _, _, _⟩
  repeat (first | refine sp ?_ | (refine is_load ?_; refine ld ?_) | (refine is_store ?_; refine sr ?_) | (refine is_alloc ?_; refine al ?_) | (refine is_box ?_; refine bx ?_) | (refine isl_load ?_; refine ldl ?_) | (refine isl_store ?_; refine srl ?_) | (refine isl_alloc ?_; refine all' ?_) | (refine isl_box ?_; refine bxl ?_) | refine dr Try.follows ?_)
  refine go_call rfl rfl (c_Select w1 _ p q B t 2 g.ar g.inA g.ine g.sz6) ?_
  rintro _ w2 ⟨rfl, hR⟩
  obtain ⟨B2, g2, hB2, hf2⟩ := g.rd hR
  rw [show entV (entAt t.ents 2) = .tuple #[.agg ⟨[.int .i64 9, .int .i64 0]⟩, .bool true] by rw [hen]; rfl]
  repeat (first | refine sp ?_ | (refine is_load ?_; refine ld ?_) | (refine is_store ?_; refine sr ?_) | (refine is_alloc ?_; refine al ?_) | (refine is_box ?_; refine bx ?_) | (refine isl_load ?_; refine ldl ?_) | (refine isl_store ?_; refine srl ?_) | (refine isl_alloc ?_; refine all' ?_) | (refine isl_box ?_; refine bxl ?_) | refine dr Try.follows ?_)
  refine go_name (F := fun w3 => At w3 w2.heap.size [.int .i64 9, .int .i64 0] 35 ∧ Ext w2 w3 ∧ w2.heap.size + 1 ≤ w3.heap.size) ⟨by (repeat (first | assumption | (refine At.new' (by (first | omega | (simp; done) | (simp; omega))) _ _) | apply At.alloc | apply At.drewN | apply At.setRow | (apply At.setRow_neF; first | assumption | (apply Ne.symm; assumption) | omega) | (apply At.extF; assumption))), by (repeat (first | exact Fr.refl _ _ | assumption | apply Fr.drewN | apply Fr.alloc | (apply Fr.transF; assumption) | (refine Fr.setRow ?_ _ (by first | exact Or.inr (by (first | omega | (simp; done) | (simp; omega))) | (exact Or.inl (by first | assumption | (simp; done))))))), by simp⟩ ?_
  rintro w3 ⟨hat, hx3, hl3⟩
  replace g2 := g2.step hx3
  have hpl := g2.ar.lt p g2.ar.fpp
  have hpl2 := (hR.elim fun _ h => h.1.lt p h.1.fpp)
  refine go_call rfl rfl (c_Rank w3 _ p q B2 t 5 g2.ar g2.inA g2.ine g2.srt g2.sz6) ?_
  rintro _ w4 ⟨rfl, hR4⟩
  obtain ⟨B4, g4, hB4, hf4⟩ := g2.rd hR4
  rw [show cntF (befP false 5) t.ents = 2 by rw [hen]; rfl]
  have hat4 := hat.fr hf4 (by omega)
  repeat (first | refine sp ?_ | (refine is_load ?_; refine ld ?_) | (refine is_store ?_; refine sr ?_) | (refine is_alloc ?_; refine al ?_) | (refine is_box ?_; refine bx ?_) | (refine isl_load ?_; refine ldl ?_) | (refine isl_store ?_; refine srl ?_) | (refine isl_alloc ?_; refine all' ?_) | (refine isl_box ?_; refine bxl ?_) | refine dr Try.follows ?_)
  refine go_call rfl rfl (c_RCount w4 _ p q B4 t 2 9 g4.ar g4.inA g4.ine g4.srt g4.sz6) ?_
  rintro _ w5 ⟨rfl, hR5⟩
  obtain ⟨B5, g5, hB5, hf5⟩ := g4.rd hR5
  rw [show cntR 2 9 t.ents = 2 by rw [hen]; rfl]
  repeat (first | refine sp ?_ | (refine is_load ?_; refine ld ?_) | (refine is_store ?_; refine sr ?_) | (refine is_alloc ?_; refine al ?_) | (refine is_box ?_; refine bx ?_) | (refine isl_load ?_; refine ldl ?_) | (refine isl_store ?_; refine srl ?_) | (refine isl_alloc ?_; refine all' ?_) | (refine isl_box ?_; refine bxl ?_) | refine dr Try.follows ?_)
  exact go_ret1 rfl rfl ⟨_, rfl, rfl, g5.ext⟩

theorem cntR_add {x y z : Int} (h : x ≤ y) (h2 : y < z) (l : List (Int × Int)) : cntR x y l + cntR (y + 1) z l = cntR x z l := by
  have e1 := cntR_eq h l
  have e2 := cntR_eq (show y + 1 ≤ z by omega) l
  have e3 := cntR_eq (show x ≤ z by omega) l
  have e4 : cntF (befP false (y + 1)) l = cntF (befP true y) l := by
    unfold cntF
    rw [List.filter_congr (q := befP true y) fun e _ => by simp [befP]; omega]
  omega
theorem cntR_rank {x y : Int} (h : x ≤ y) (l : List (Int × Int)) : (cntR x y l : Int) = cntF (befP false (y + 1)) l - cntF (befP false x) l := by
  have e1 := cntR_eq h l
  have e4 : cntF (befP false (y + 1)) l = cntF (befP true y) l := by
    unfold cntF
    rw [List.filter_congr (q := befP true y) fun e _ => by simp [befP]; omega]
  omega
theorem cntR_all {l : List (Int × Int)} (h : InE l) : cntR (-9223372036854775808) 9223372036854775807 l = l.length := cntF_all fun e he => by
  have := (h e he).1
  unfold InV at this
  simp; omega

set_option maxHeartbeats 2000000 in
theorem c_LawCountsAdd (lv : Value) (l : List (Int × Int)) (tilt x y z : Int) (w : World) (h : Rd w 0 lv entC l) (he : InE l) (hlen : l.length ≤ 9223372036854775807) (ht : 0 ≤ tilt ∧ tilt ≤ 18446744073709551615) (hx : InV x) (hy : InV y) (hz : InV z) :
    Calls Try.prog 3 [lv, .int .u64 tilt, .int .i64 x, .int .i64 y, .int .i64 z].toArray w (Ret fun v w' => v = .bool true ∧ Ext w w') := by
  unfold InV at hx hy hz
  refine calls_go Try.func3 rfl Try.ntmps3 (Nat.le_of_ble_eq_true rfl) ?_
  repeat (first | refine sp ?_ | (refine is_load ?_; refine ld ?_) | (refine is_store ?_; refine sr ?_) | (refine is_alloc ?_; refine al ?_) | (refine is_box ?_; refine bx ?_) | (refine isl_load ?_; refine ldl ?_) | (refine isl_store ?_; refine srl ?_) | (refine isl_alloc ?_; refine all' ?_) | (refine isl_box ?_; refine bxl ?_) | refine dr Try.follows ?_)
  refine go_call rfl rfl (c_List w lv l 120 h.up he hlen (by omega)) ?_
  rintro v1 w1 ⟨a, ha, hok, hx1⟩
  obtain ⟨sa, cap, rfl, hlc, _, _⟩ := ha
  have ha : RdU w1 w1.heap.size (.slice sa a.length cap) entC a := ⟨sa, cap, rfl, hlc, by assumption, by assumption⟩
  repeat (first | refine sp ?_ | (refine is_load ?_; refine ld ?_) | (refine is_store ?_; refine sr ?_) | (refine is_alloc ?_; refine al ?_) | (refine is_box ?_; refine bx ?_) | (refine isl_load ?_; refine ldl ?_) | (refine isl_store ?_; refine srl ?_) | (refine isl_alloc ?_; refine all' ?_) | (refine isl_box ?_; refine bxl ?_) | refine dr Try.follows ?_)
  refine go_call rfl rfl (c_GrowT w w1 a 120 _ tilt 1 ha hok (by omega) (by omega) (by omega) ht hx1) ?_
  rintro _ w2 ⟨lo, p, q, B, t, rfl, g, hen, hsz, hre, _, _, hx2⟩
  repeat (first | refine sp ?_ | (refine is_load ?_; refine ld ?_) | (refine is_store ?_; refine sr ?_) | (refine is_alloc ?_; refine al ?_) | (refine is_box ?_; refine bx ?_) | (refine isl_load ?_; refine ldl ?_) | (refine isl_store ?_; refine srl ?_) | (refine isl_alloc ?_; refine all' ?_) | (refine isl_box ?_; refine bxl ?_) | refine dr Try.follows ?_)
  refine go_call rfl rfl (c_awake10 w2) ?_
  rintro _ w3 ⟨rfl, hx3⟩
  have g3 := g.step hx3
  have hal := hok.len
  have hcb : ∀ u v, cntR u v t.ents ≤ 120 := fun u v => by
    have := cntF_le (fun e => decide (u ≤ e.1 ∧ e.1 ≤ v)) t.ents
    rw [t.len, hsz] at this
    unfold cntR; omega
  have hrb : ∀ u v, cntF (befP u v) t.ents ≤ 120 := fun u v => by
    have := cntF_le (befP u v) t.ents
    rw [t.len, hsz] at this
    omega
  by_cases hxy : y < x ∨ z ≤ y
  · have hb : cntR 1 0 t.ents = 0 := cntR_none (by omega) _
    rcases hxy with hxy | hxy
    · repeat (first | refine sp ?_ | (refine is_load ?_; refine ld ?_) | (refine is_store ?_; refine sr ?_) | (refine is_alloc ?_; refine al ?_) | (refine is_box ?_; refine bx ?_) | (refine isl_load ?_; refine ldl ?_) | (refine isl_store ?_; refine srl ?_) | (refine isl_alloc ?_; refine all' ?_) | (refine isl_box ?_; refine bxl ?_) | refine dr Try.follows ?_)
      refine go_call rfl rfl (c_RCount w3 _ p q B t 1 0 g3.ar g3.inA g3.ine g3.srt g3.sz6) ?_
      rintro _ w4 ⟨rfl, hR⟩
      obtain ⟨B4, g4, hB4, hf4⟩ := g3.rd hR
      rw [hb]
      repeat (first | refine sp ?_ | (refine is_load ?_; refine ld ?_) | (refine is_store ?_; refine sr ?_) | (refine is_alloc ?_; refine al ?_) | (refine is_box ?_; refine bx ?_) | (refine isl_load ?_; refine ldl ?_) | (refine isl_store ?_; refine srl ?_) | (refine isl_alloc ?_; refine all' ?_) | (refine isl_box ?_; refine bxl ?_) | refine dr Try.follows ?_)
      exact go_ret1 rfl rfl ⟨_, rfl, rfl, g4.ext⟩
    · by_cases hxy2 : y < x
      · repeat (first | refine sp ?_ | (refine is_load ?_; refine ld ?_) | (refine is_store ?_; refine sr ?_) | (refine is_alloc ?_; refine al ?_) | (refine is_box ?_; refine bx ?_) | (refine isl_load ?_; refine ldl ?_) | (refine isl_store ?_; refine srl ?_) | (refine isl_alloc ?_; refine all' ?_) | (refine isl_box ?_; refine bxl ?_) | refine dr Try.follows ?_)
        refine go_call rfl rfl (c_RCount w3 _ p q B t 1 0 g3.ar g3.inA g3.ine g3.srt g3.sz6) ?_
        rintro _ w4 ⟨rfl, hR⟩
        obtain ⟨B4, g4, hB4, hf4⟩ := g3.rd hR
        rw [hb]
        repeat (first | refine sp ?_ | (refine is_load ?_; refine ld ?_) | (refine is_store ?_; refine sr ?_) | (refine is_alloc ?_; refine al ?_) | (refine is_box ?_; refine bx ?_) | (refine isl_load ?_; refine ldl ?_) | (refine isl_store ?_; refine srl ?_) | (refine isl_alloc ?_; refine all' ?_) | (refine isl_box ?_; refine bxl ?_) | refine dr Try.follows ?_)
        exact go_ret1 rfl rfl ⟨_, rfl, rfl, g4.ext⟩
      · repeat (first | refine sp ?_ | (refine is_load ?_; refine ld ?_) | (refine is_store ?_; refine sr ?_) | (refine is_alloc ?_; refine al ?_) | (refine is_box ?_; refine bx ?_) | (refine isl_load ?_; refine ldl ?_) | (refine isl_store ?_; refine srl ?_) | (refine isl_alloc ?_; refine all' ?_) | (refine isl_box ?_; refine bxl ?_) | refine dr Try.follows ?_)
        refine go_call rfl rfl (c_RCount w3 _ p q B t 1 0 g3.ar g3.inA g3.ine g3.srt g3.sz6) ?_
        rintro _ w4 ⟨rfl, hR⟩
        obtain ⟨B4, g4, hB4, hf4⟩ := g3.rd hR
        rw [hb]
        repeat (first | refine sp ?_ | (refine is_load ?_; refine ld ?_) | (refine is_store ?_; refine sr ?_) | (refine is_alloc ?_; refine al ?_) | (refine is_box ?_; refine bx ?_) | (refine isl_load ?_; refine ldl ?_) | (refine isl_store ?_; refine srl ?_) | (refine isl_alloc ?_; refine all' ?_) | (refine isl_box ?_; refine bxl ?_) | refine dr Try.follows ?_)
        exact go_ret1 rfl rfl ⟨_, rfl, rfl, g4.ext⟩
  · have q1 := cntR_add (show x ≤ y by omega) (show y < z by omega) t.ents
    have q2 := cntR_rank (show x ≤ y by omega) t.ents
    have q3 := cntR_all g.ine
    have b1 := hcb x y
    have b2 := hcb (y + 1) z
    have b3 := hrb false (y + 1)
    have b4 := hrb false x
    repeat (first | refine sp ?_ | (refine is_load ?_; refine ld ?_) | (refine is_store ?_; refine sr ?_) | (refine is_alloc ?_; refine al ?_) | (refine is_box ?_; refine bx ?_) | (refine isl_load ?_; refine ldl ?_) | (refine isl_store ?_; refine srl ?_) | (refine isl_alloc ?_; refine all' ?_) | (refine isl_box ?_; refine bxl ?_) | refine dr Try.follows ?_)
    refine go_call rfl rfl (c_RCount w3 _ p q B t x y g3.ar g3.inA g3.ine g3.srt g3.sz6) ?_
    rintro _ w4 ⟨rfl, hR⟩
    obtain ⟨B4, g4, hB4, hf4⟩ := g3.rd hR
    repeat (first | refine sp ?_ | (refine is_load ?_; refine ld ?_) | (refine is_store ?_; refine sr ?_) | (refine is_alloc ?_; refine al ?_) | (refine is_box ?_; refine bx ?_) | (refine isl_load ?_; refine ldl ?_) | (refine isl_store ?_; refine srl ?_) | (refine isl_alloc ?_; refine all' ?_) | (refine isl_box ?_; refine bxl ?_) | refine dr Try.follows ?_)
    refine go_call rfl rfl (c_RCount w4 _ p q B4 t (y + 1) z g4.ar g4.inA g4.ine g4.srt g4.sz6) ?_
    rintro _ w5 ⟨rfl, hR⟩
    obtain ⟨B5, g5, hB5, hf5⟩ := g4.rd hR
    repeat (first | refine sp ?_ | (refine is_load ?_; refine ld ?_) | (refine is_store ?_; refine sr ?_) | (refine is_alloc ?_; refine al ?_) | (refine is_box ?_; refine bx ?_) | (refine isl_load ?_; refine ldl ?_) | (refine isl_store ?_; refine srl ?_) | (refine isl_alloc ?_; refine all' ?_) | (refine isl_box ?_; refine bxl ?_) | refine dr Try.follows ?_)
    refine go_call rfl rfl (c_RCount w5 _ p q B5 t x z g5.ar g5.inA g5.ine g5.srt g5.sz6) ?_
    rintro _ w6 ⟨rfl, hR⟩
    obtain ⟨B6, g6, hB6, hf6⟩ := g5.rd hR
    repeat (first | refine sp ?_ | (refine is_load ?_; refine ld ?_) | (refine is_store ?_; refine sr ?_) | (refine is_alloc ?_; refine al ?_) | (refine is_box ?_; refine bx ?_) | (refine isl_load ?_; refine ldl ?_) | (refine isl_store ?_; refine srl ?_) | (refine isl_alloc ?_; refine all' ?_) | (refine isl_box ?_; refine bxl ?_) | refine dr Try.follows ?_)
    refine go_call rfl rfl (c_RCount w6 _ p q B6 t x y g6.ar g6.inA g6.ine g6.srt g6.sz6) ?_
    rintro _ w7 ⟨rfl, hR⟩
    obtain ⟨B7, g7, hB7, hf7⟩ := g6.rd hR
    repeat (first | refine sp ?_ | (refine is_load ?_; refine ld ?_) | (refine is_store ?_; refine sr ?_) | (refine is_alloc ?_; refine al ?_) | (refine is_box ?_; refine bx ?_) | (refine isl_load ?_; refine ldl ?_) | (refine isl_store ?_; refine srl ?_) | (refine isl_alloc ?_; refine all' ?_) | (refine isl_box ?_; refine bxl ?_) | refine dr Try.follows ?_)
    refine go_call rfl rfl (c_Rank w7 _ p q B7 t (y + 1) g7.ar g7.inA g7.ine g7.srt g7.sz6) ?_
    rintro _ w8 ⟨rfl, hR⟩
    obtain ⟨B8, g8, hB8, hf8⟩ := g7.rd hR
    repeat (first | refine sp ?_ | (refine is_load ?_; refine ld ?_) | (refine is_store ?_; refine sr ?_) | (refine is_alloc ?_; refine al ?_) | (refine is_box ?_; refine bx ?_) | (refine isl_load ?_; refine ldl ?_) | (refine isl_store ?_; refine srl ?_) | (refine isl_alloc ?_; refine all' ?_) | (refine isl_box ?_; refine bxl ?_) | refine dr Try.follows ?_)
    refine go_call rfl rfl (c_Rank w8 _ p q B8 t x g8.ar g8.inA g8.ine g8.srt g8.sz6) ?_
    rintro _ w9 ⟨rfl, hR⟩
    obtain ⟨B9, g9, hB9, hf9⟩ := g8.rd hR
    repeat (first | refine sp ?_ | (refine is_load ?_; refine ld ?_) | (refine is_store ?_; refine sr ?_) | (refine is_alloc ?_; refine al ?_) | (refine is_box ?_; refine bx ?_) | (refine isl_load ?_; refine ldl ?_) | (refine isl_store ?_; refine srl ?_) | (refine isl_alloc ?_; refine all' ?_) | (refine isl_box ?_; refine bxl ?_) | refine dr Try.follows ?_)
    refine go_call rfl rfl (c_RCount w9 _ p q B9 t _ _ g9.ar g9.inA g9.ine g9.srt g9.sz6) ?_
    rintro _ w10 ⟨rfl, hR⟩
    obtain ⟨B10, g10, hB10, hf10⟩ := g9.rd hR
    rw [q3, t.len, hsz]
    repeat (first | refine sp ?_ | (refine is_load ?_; refine ld ?_) | (refine is_store ?_; refine sr ?_) | (refine is_alloc ?_; refine al ?_) | (refine is_box ?_; refine bx ?_) | (refine isl_load ?_; refine ldl ?_) | (refine isl_store ?_; refine srl ?_) | (refine isl_alloc ?_; refine all' ?_) | (refine isl_box ?_; refine bxl ?_) | refine dr Try.follows ?_)
    exact go_ret1 rfl rfl ⟨_, rfl, rfl, g10.ext⟩

end Go.Proofs.Ytgafapifpoinlaa
