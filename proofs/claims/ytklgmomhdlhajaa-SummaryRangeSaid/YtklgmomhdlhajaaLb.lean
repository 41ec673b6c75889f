/-
  The laws of chapter 11.
-/
import Derived.Test.YtklgmomhdlhajaaLa
import Derived.Test.YtklgmomhdlhajaaLh
import Derived.Test.YtklgmomhdlhajaaRk
set_option linter.unusedVariables false
namespace Go.Proofs.Ytklgmomhdlhajaa
open Go.Vc

set_option maxHeartbeats 2000000 in
theorem c_LawRangesAdd (lv : Value) (l : List (Int × Int)) (tilt x y z : Int) (w : World) (h : Rd w 0 lv entC l) (he : InE l) (hlen : l.length ≤ 9223372036854775807) (ht : 0 ≤ tilt ∧ tilt ≤ 18446744073709551615) (hx : InV x) (hy : InV y) (hz : InV z) :
    Calls Try.prog 7 [lv, .int .u64 tilt, .int .i64 x, .int .i64 y, .int .i64 z].toArray w (Ret fun v w' => v = .bool true ∧ Ext w w') := by
  unfold InV at hx hy hz
  refine calls_go Try.func7 rfl Try.ntmps7 (Nat.le_of_ble_eq_true rfl) ?_
  repeat (first | refine sp ?_ | (refine is_load ?_; refine ld ?_) | (refine is_store ?_; refine sr ?_) | (refine is_alloc ?_; refine al ?_) | (refine is_box ?_; refine bx ?_) | (refine isl_load ?_; refine ldl ?_) | (refine isl_store ?_; refine srl ?_) | (refine isl_alloc ?_; refine all' ?_) | (refine isl_box ?_; refine bxl ?_) | refine dr Try.follows ?_)
  refine go_call rfl rfl (c_List w lv l 120 h.up he hlen (by omega)) ?_
  rintro v1 w1 ⟨a, ha, hok, hx1⟩
  obtain ⟨sa, cap, rfl, hlc, _, _⟩ := ha
  have ha : RdU w1 w1.heap.size (.slice sa a.length cap) entC a := ⟨sa, cap, rfl, hlc, by assumption, by assumption⟩
  repeat (first | refine sp ?_ | (refine is_load ?_; refine ld ?_) | (refine is_store ?_; refine sr ?_) | (refine is_alloc ?_; refine al ?_) | (refine is_box ?_; refine bx ?_) | (refine isl_load ?_; refine ldl ?_) | (refine isl_store ?_; refine srl ?_) | (refine isl_alloc ?_; refine all' ?_) | (refine isl_box ?_; refine bxl ?_) | refine dr Try.follows ?_)
  refine go_call rfl rfl (c_GrowT w w1 a 120 _ tilt 1 ha hok (by omega) (by omega) (by omega) ht hx1) ?_
  rintro _ w2 ⟨lo, p, q, B, t, rfl, g, hen, hsz, hre, hcp, hpb, hx2⟩
  repeat (first | refine sp ?_ | (refine is_load ?_; refine ld ?_) | (refine is_store ?_; refine sr ?_) | (refine is_alloc ?_; refine al ?_) | (refine is_box ?_; refine bx ?_) | (refine isl_load ?_; refine ldl ?_) | (refine isl_store ?_; refine srl ?_) | (refine isl_alloc ?_; refine all' ?_) | (refine isl_box ?_; refine bxl ?_) | refine dr Try.follows ?_)
  refine go_call rfl rfl (c_awake11 w2) ?_
  rintro _ w3 ⟨rfl, hx3⟩
  have g3 := g.step hx3
  have hal := hok.len
  have ha3 := (ha.ext hx2).ext hx3
  have hz0 : (smF (rngP 1 0) t.ents).cells = [.int .i64 0, .int .i64 0, .int .i64 0, .int .i64 0] := by
    rw [show smF (rngP 1 0) t.ents = Sm.zero from smF_none fun e _ => by simp [rngP]; omega]; rfl
  by_cases hxy : y < x
  · repeat (first | refine sp ?_ | (refine is_load ?_; refine ld ?_) | (refine is_store ?_; refine sr ?_) | (refine is_alloc ?_; refine al ?_) | (refine is_box ?_; refine bx ?_) | (refine isl_load ?_; refine ldl ?_) | (refine isl_store ?_; refine srl ?_) | (refine isl_alloc ?_; refine all' ?_) | (refine isl_box ?_; refine bxl ?_) | refine dr Try.follows ?_)
    refine go_call rfl rfl (c_Range w3 _ p q B t 1 0 g3.ar g3.inA g3.ine g3.srt g3.sz6 (g3.inA.rootlt g3.ar.wf)) ?_
    rintro _ w4 ⟨rfl, hR⟩
    obtain ⟨B4, g4, hB4, hf4⟩ := g3.rd hR
    rw [hz0]
    repeat (first | refine sp ?_ | (refine is_load ?_; refine ld ?_) | (refine is_store ?_; refine sr ?_) | (refine is_alloc ?_; refine al ?_) | (refine is_box ?_; refine bx ?_) | (refine isl_load ?_; refine ldl ?_) | (refine isl_store ?_; refine srl ?_) | (refine isl_alloc ?_; refine all' ?_) | (refine isl_box ?_; refine bxl ?_) | refine dr Try.follows ?_)
    exact go_ret1 rfl rfl ⟨_, rfl, rfl, g4.ext⟩
  by_cases hyz : z ≤ y
  · repeat (first | refine sp ?_ | (refine is_load ?_; refine ld ?_) | (refine is_store ?_; refine sr ?_) | (refine is_alloc ?_; refine al ?_) | (refine is_box ?_; refine bx ?_) | (refine isl_load ?_; refine ldl ?_) | (refine isl_store ?_; refine srl ?_) | (refine isl_alloc ?_; refine all' ?_) | (refine isl_box ?_; refine bxl ?_) | refine dr Try.follows ?_)
    refine go_call rfl rfl (c_Range w3 _ p q B t 1 0 g3.ar g3.inA g3.ine g3.srt g3.sz6 (g3.inA.rootlt g3.ar.wf)) ?_
    rintro _ w4 ⟨rfl, hR⟩
    obtain ⟨B4, g4, hB4, hf4⟩ := g3.rd hR
    rw [hz0]
    repeat (first | refine sp ?_ | (refine is_load ?_; refine ld ?_) | (refine is_store ?_; refine sr ?_) | (refine is_alloc ?_; refine al ?_) | (refine is_box ?_; refine bx ?_) | (refine isl_load ?_; refine ldl ?_) | (refine isl_store ?_; refine srl ?_) | (refine isl_alloc ?_; refine all' ?_) | (refine isl_box ?_; refine bxl ?_) | refine dr Try.follows ?_)
    exact go_ret1 rfl rfl ⟨_, rfl, rfl, g4.ext⟩
  · have hrn : ∀ u v, (smF (rngP u v) t.ents).n = (cntR u v t.ents : Int) ∧ cntR u v t.ents ≤ 120 := fun u v => by
      have := cntF_le (rngP u v) t.ents
      rw [t.len, hsz] at this
      refine ⟨?_, by unfold cntR; unfold cntF at this ⊢; unfold rngP at this; omega⟩
      unfold smF cntR cntF; rw [smy_n, List.length_map]; rfl
    have hadd : (smF (rngP x y) t.ents).add (smF (rngP (y + 1) z) t.ents) = smF (rngP x z) t.ents := by
      have key : ∀ l : List (Int × Int), InE l → (smF (rngP x y) l).add (smF (rngP (y + 1) z) l) = smF (rngP x z) l := by
        intro l
        induction l with
        | nil => intro _; rfl
        | cons e l ih =>
          intro hl
          have hl2 : InE l := fun u hu => hl u (by simp [hu])
          have hl1 : InE [e] := fun u hu => by simp at hu; subst hu; exact hl _ (by simp)
          have hcs : ∀ p, smF p (e :: l) = (smF p [e]).add (smF p l) := fun p => smF_append hl1 hl2
          rw [hcs, hcs, hcs, ← ih hl2]
          have hv := (hl e (by simp)).2
          have o1 := smF_ok (p := rngP x y) hl2
          have o2 := smF_ok (p := rngP (y + 1) z) hl2
          have o3 := smF_ok (p := rngP x y) hl1
          have o4 := smF_ok (p := rngP (y + 1) z) hl1
          have hone : (smF (rngP x y) [e]).add (smF (rngP (y + 1) z) [e]) = smF (rngP x z) [e] := by
            rw [smF_one hv, smF_one hv, smF_one hv]
            unfold rngP
            by_cases h1 : x ≤ e.1 <;> by_cases h2 : e.1 ≤ y <;> by_cases h3 : e.1 ≤ z <;> first | omega | skip
            all_goals simp only [h1, h2, h3, and_true, and_false, true_and, false_and, decide_true, decide_false, if_true, Bool.false_eq_true, if_false]
            · rw [if_neg (by simp; omega)]; exact Sm.add_zero (Sm.one_ok hv)
            · rw [if_pos (by simp; omega)]; exact Sm.zero_add _
            · rfl
            all_goals (rw [if_neg (by simp; omega)]; rfl)
          rw [← hone, Sm.add_assoc o3 o1 (Sm.add_ok o4 o2), ← Sm.add_assoc o1 o4 o2, Sm.add_comm o1 o4, Sm.add_assoc o4 o1 o2, ← Sm.add_assoc o3 o4 (Sm.add_ok o1 o2)]
      exact key _ g3.ine
    have n1 := hrn x y
    have n2 := hrn (y + 1) z
    have n3 := hrn x z
    repeat (first | refine sp ?_ | (refine is_load ?_; refine ld ?_) | (refine is_store ?_; refine sr ?_) | (refine is_alloc ?_; refine al ?_) | (refine is_box ?_; refine bx ?_) | (refine isl_load ?_; refine ldl ?_) | (refine isl_store ?_; refine srl ?_) | (refine isl_alloc ?_; refine all' ?_) | (refine isl_box ?_; refine bxl ?_) | refine dr Try.follows ?_)
    refine go_call rfl rfl (c_Range w3 _ p q B t x y g3.ar g3.inA g3.ine g3.srt g3.sz6 (g3.inA.rootlt g3.ar.wf)) ?_
    rintro _ w4 ⟨rfl, hR⟩
    obtain ⟨B4, g4, hB4, hf4⟩ := g3.rd hR
    repeat (first | refine sp ?_ | (refine is_load ?_; refine ld ?_) | (refine is_store ?_; refine sr ?_) | (refine is_alloc ?_; refine al ?_) | (refine is_box ?_; refine bx ?_) | (refine isl_load ?_; refine ldl ?_) | (refine isl_store ?_; refine srl ?_) | (refine isl_alloc ?_; refine all' ?_) | (refine isl_box ?_; refine bxl ?_) | refine dr Try.follows ?_)
    refine go_call rfl rfl (c_Range w4 _ p q B4 t (y + 1) z g4.ar g4.inA g4.ine g4.srt g4.sz6 (g4.inA.rootlt g4.ar.wf)) ?_
    rintro _ w5 ⟨rfl, hR⟩
    obtain ⟨B5, g5, hB5, hf5⟩ := g4.rd hR
    repeat (first | refine sp ?_ | (refine is_load ?_; refine ld ?_) | (refine is_store ?_; refine sr ?_) | (refine is_alloc ?_; refine al ?_) | (refine is_box ?_; refine bx ?_) | (refine isl_load ?_; refine ldl ?_) | (refine isl_store ?_; refine srl ?_) | (refine isl_alloc ?_; refine all' ?_) | (refine isl_box ?_; refine bxl ?_) | refine dr Try.follows ?_)
    refine go_call rfl rfl (c_SAdd _ _ w5 (by omega) (by omega)) ?_
    rintro _ w6 ⟨rfl, hx6⟩
    have g6 := g5.step hx6
    rw [hadd]
    repeat (first | refine sp ?_ | (refine is_load ?_; refine ld ?_) | (refine is_store ?_; refine sr ?_) | (refine is_alloc ?_; refine al ?_) | (refine is_box ?_; refine bx ?_) | (refine isl_load ?_; refine ldl ?_) | (refine isl_store ?_; refine srl ?_) | (refine isl_alloc ?_; refine all' ?_) | (refine isl_box ?_; refine bxl ?_) | refine dr Try.follows ?_)
    refine go_call rfl rfl (c_Range w6 _ p q B5 t x z g6.ar g6.inA g6.ine g6.srt g6.sz6 (g6.inA.rootlt g6.ar.wf)) ?_
    rintro _ w7 ⟨rfl, hR⟩
    obtain ⟨B7, g7, hB7, hf7⟩ := g6.rd hR
    obtain ⟨s, hs⟩ : ∃ s, smF (rngP x z) t.ents = s := ⟨_, rfl⟩
    rw [hs] at n3 ⊢
    unfold Sm.cells
    repeat (first | refine sp ?_ | (refine is_load ?_; refine ld ?_) | (refine is_store ?_; refine sr ?_) | (refine is_alloc ?_; refine al ?_) | (refine is_box ?_; refine bx ?_) | (refine isl_load ?_; refine ldl ?_) | (refine isl_store ?_; refine srl ?_) | (refine isl_alloc ?_; refine all' ?_) | (refine isl_box ?_; refine bxl ?_) | refine dr Try.follows ?_)
    refine go_as 60 (u' := .bool true) rfl (by rw [sm_eq]) ?_
    refine go_as 61 (u' := .bool true) rfl (by rw [sm_eq]) ?_
    repeat (first | refine sp ?_ | (refine is_load ?_; refine ld ?_) | (refine is_store ?_; refine sr ?_) | (refine is_alloc ?_; refine al ?_) | (refine is_box ?_; refine bx ?_) | (refine isl_load ?_; refine ldl ?_) | (refine isl_store ?_; refine srl ?_) | (refine isl_alloc ?_; refine all' ?_) | (refine isl_box ?_; refine bxl ?_) | refine dr Try.follows ?_)
    refine go_call rfl rfl (c_Range w7 _ p q B7 t x z g7.ar g7.inA g7.ine g7.srt g7.sz6 (g7.inA.rootlt g7.ar.wf)) ?_
    rintro _ w8 ⟨rfl, hR⟩
    obtain ⟨B8, g8, hB8, hf8⟩ := g7.rd hR
    rw [hs]
    unfold Sm.cells
    repeat (first | refine sp ?_ | (refine is_load ?_; refine ld ?_) | (refine is_store ?_; refine sr ?_) | (refine is_alloc ?_; refine al ?_) | (refine is_box ?_; refine bx ?_) | (refine isl_load ?_; refine ldl ?_) | (refine isl_store ?_; refine srl ?_) | (refine isl_alloc ?_; refine all' ?_) | (refine isl_box ?_; refine bxl ?_) | refine dr Try.follows ?_)
    refine go_call rfl rfl (c_RCount w8 _ p q B8 t x z g8.ar g8.inA g8.ine g8.srt g8.sz6) ?_
    rintro _ w9 ⟨rfl, hR⟩
    obtain ⟨B9, g9, hB9, hf9⟩ := g8.rd hR
    rw [n3.1]
    repeat (first | refine sp ?_ | (refine is_load ?_; refine ld ?_) | (refine is_store ?_; refine sr ?_) | (refine is_alloc ?_; refine al ?_) | (refine is_box ?_; refine bx ?_) | (refine isl_load ?_; refine ldl ?_) | (refine isl_store ?_; refine srl ?_) | (refine isl_alloc ?_; refine all' ?_) | (refine isl_box ?_; refine bxl ?_) | refine dr Try.follows ?_)
    exact go_ret1 rfl rfl ⟨_, rfl, rfl, g9.ext⟩

set_option maxHeartbeats 2000000 in
theorem c_LawAdds (lv mv : Value) (l m : List (Int × Int)) (w : World) (h : Rd w 0 lv entC l) (he : InE l) (h2 : Rd w 0 mv entC m) (he2 : InE m) :
    Calls Try.prog 6 [lv, mv].toArray w (Ret fun v w' => v = .bool true ∧ Ext w w') := by
  have h0 := h
  obtain ⟨sa, cap, hlv, hlc, hrl, _⟩ := h0
  subst hlv
  have h02 := h2
  obtain ⟨sb, capb, hmv, hmc, hrm, _⟩ := h02
  subst hmv
  refine calls_go Try.func6 rfl Try.ntmps6 (Nat.le_of_ble_eq_true rfl) ?_
  by_cases h3 : 300 < l.length
  · repeat (first | refine sp ?_ | (refine is_load ?_; refine ld ?_) | (refine is_store ?_; refine sr ?_) | (refine is_alloc ?_; refine al ?_) | (refine is_box ?_; refine bx ?_) | (refine isl_load ?_; refine ldl ?_) | (refine isl_store ?_; refine srl ?_) | (refine isl_alloc ?_; refine all' ?_) | (refine isl_box ?_; refine bxl ?_) | refine dr Try.follows ?_)
    refine go_call rfl rfl (c_awake11 w) ?_
    rintro _ w1 ⟨rfl, hx1⟩
    repeat (first | refine sp ?_ | (refine is_load ?_; refine ld ?_) | (refine is_store ?_; refine sr ?_) | (refine is_alloc ?_; refine al ?_) | (refine is_box ?_; refine bx ?_) | (refine isl_load ?_; refine ldl ?_) | (refine isl_store ?_; refine srl ?_) | (refine isl_alloc ?_; refine all' ?_) | (refine isl_box ?_; refine bxl ?_) | refine dr Try.follows ?_)
    exact go_ret1 rfl rfl ⟨_, rfl, rfl, hx1⟩
  by_cases h4 : 300 < m.length
  · repeat (first | refine sp ?_ | (refine is_load ?_; refine ld ?_) | (refine is_store ?_; refine sr ?_) | (refine is_alloc ?_; refine al ?_) | (refine is_box ?_; refine bx ?_) | (refine isl_load ?_; refine ldl ?_) | (refine isl_store ?_; refine srl ?_) | (refine isl_alloc ?_; refine all' ?_) | (refine isl_box ?_; refine bxl ?_) | refine dr Try.follows ?_)
    refine go_call rfl rfl (c_awake11 w) ?_
    rintro _ w1 ⟨rfl, hx1⟩
    repeat (first | refine sp ?_ | (refine is_load ?_; refine ld ?_) | (refine is_store ?_; refine sr ?_) | (refine is_alloc ?_; refine al ?_) | (refine is_box ?_; refine bx ?_) | (refine isl_load ?_; refine ldl ?_) | (refine isl_store ?_; refine srl ?_) | (refine isl_alloc ?_; refine all' ?_) | (refine isl_box ?_; refine bxl ?_) | refine dr Try.follows ?_)
    exact go_ret1 rfl rfl ⟨_, rfl, rfl, hx1⟩
  have hone : ∀ (k : List (Int × Int)) (u : Value), u ∈ k.flatMap entC → u.oneCell' = true := by
    intro k u hu
    obtain ⟨e, _, hu⟩ := List.mem_flatMap.1 hu
    simp only [entC, List.mem_cons, List.not_mem_nil, or_false] at hu
    rcases hu with rfl | rfl <;> rfl
  have hfl : ∀ k : List (Int × Int), (k.flatMap entC).length = k.length * 2 := flatMap_len (fun _ => rfl)
  repeat (first | refine sp ?_ | (refine is_load ?_; refine ld ?_) | (refine is_store ?_; refine sr ?_) | (refine is_alloc ?_; refine al ?_) | (refine is_box ?_; refine bx ?_) | (refine isl_load ?_; refine ldl ?_) | (refine isl_store ?_; refine srl ?_) | (refine isl_alloc ?_; refine all' ?_) | (refine isl_box ?_; refine bxl ?_) | refine dr Try.follows ?_)
  refine go_appendG (r := l.length) (lo := w.heap.size) (q := 0) (xs := []) (by decide) rfl rfl rfl (Own.nil _ _ _ _) hrl (hfl l) (hone l) (by simp [maxLen]; omega) (by omega) (by simp) ?_
  intro v1 w1 ho1 hg1 _
  have hx1 : Ext w w1 := ext_grown (Fr.refl _ _) (Nat.le_refl _) (Own.nil _ w.heap.size 53 2) hg1
  repeat (first | refine sp ?_ | (refine is_load ?_; refine ld ?_) | (refine is_store ?_; refine sr ?_) | (refine is_alloc ?_; refine al ?_) | (refine is_box ?_; refine bx ?_) | (refine isl_load ?_; refine ldl ?_) | (refine isl_store ?_; refine srl ?_) | (refine isl_alloc ?_; refine all' ?_) | (refine isl_box ?_; refine bxl ?_) | refine dr Try.follows ?_)
  refine go_appendG (r := m.length) (by decide) rfl rfl rfl ho1 (hrm.ext hx1) (hfl m) (hone m) (by simp [maxLen]; omega) (by omega) hx1.size ?_
  intro v2 w2 ho2 hg2 _
  have hx2 : Ext w w2 := ext_grown hx1 (Nat.le_refl _) ho1 hg2
  have hlen : (l ++ m).length = 0 + l.length + m.length := by simp
  have ho3 : OwnE w2 w.heap.size v2 (l ++ m) := by
    unfold OwnE
    rw [hlen, List.flatMap_append]; exact ho2
  have hb := ho3.rd.up
  obtain ⟨sv2, cv2, rfl, _, _⟩ := ho3.slice
  repeat (first | refine sp ?_ | (refine is_load ?_; refine ld ?_) | (refine is_store ?_; refine sr ?_) | (refine is_alloc ?_; refine al ?_) | (refine is_box ?_; refine bx ?_) | (refine isl_load ?_; refine ldl ?_) | (refine isl_store ?_; refine srl ?_) | (refine isl_alloc ?_; refine all' ?_) | (refine isl_box ?_; refine bxl ?_) | refine dr Try.follows ?_)
  refine go_call rfl rfl (c_SOf w2 w.heap.size _ l (h.up.ext hx2) hx2.size he (by omega)) ?_
  rintro _ w3 ⟨rfl, hx3⟩
  have hx3' := hx2.trans hx3
  repeat (first | refine sp ?_ | (refine is_load ?_; refine ld ?_) | (refine is_store ?_; refine sr ?_) | (refine is_alloc ?_; refine al ?_) | (refine is_box ?_; refine bx ?_) | (refine isl_load ?_; refine ldl ?_) | (refine isl_store ?_; refine srl ?_) | (refine isl_alloc ?_; refine all' ?_) | (refine isl_box ?_; refine bxl ?_) | refine dr Try.follows ?_)
  refine go_call rfl rfl (c_SOf w3 w.heap.size _ m (h2.up.ext hx3') hx3'.size he2 (by omega)) ?_
  rintro _ w4 ⟨rfl, hx4⟩
  have hx4' := hx3'.trans hx4
  have hsum : smy ((l ++ m).map (·.2)) = (smy (l.map (·.2))).add (smy (m.map (·.2))) := by
    rw [List.map_append, smy_append]
    · intro u hu
      obtain ⟨e, he', rfl⟩ := List.mem_map.1 hu
      exact (he e he').2
    · intro u hu
      obtain ⟨e, he', rfl⟩ := List.mem_map.1 hu
      exact (he2 e he').2
  have hcomm : (smy (m.map (·.2))).add (smy (l.map (·.2))) = (smy (l.map (·.2))).add (smy (m.map (·.2))) := Sm.add_comm he2.smy_ok he.smy_ok
  have hn1 : (smy (l.map (·.2))).n = l.length := by rw [smy_n]; simp
  have hn2 : (smy (m.map (·.2))).n = m.length := by rw [smy_n]; simp
  have hiE : InE (l ++ m) := fun e he' => by rcases List.mem_append.1 he' with h | h; · exact he e h
                                             · exact he2 e h
  generalize smy (l.map (·.2)) = x at *
  generalize smy (m.map (·.2)) = y at *
  unfold Sm.cells
  repeat (first | refine sp ?_ | (refine is_load ?_; refine ld ?_) | (refine is_store ?_; refine sr ?_) | (refine is_alloc ?_; refine al ?_) | (refine is_box ?_; refine bx ?_) | (refine isl_load ?_; refine ldl ?_) | (refine isl_store ?_; refine srl ?_) | (refine isl_alloc ?_; refine all' ?_) | (refine isl_box ?_; refine bxl ?_) | refine dr Try.follows ?_)
  refine go_name (F := fun w5 => At w5 w4.heap.size [.int .i64 x.n, .int .i64 x.s, .int .i64 x.mn, .int .i64 x.mx] 23 ∧ At w5 (w4.heap.size + 1) [.int .i64 y.n, .int .i64 y.s, .int .i64 y.mn, .int .i64 y.mx] 23 ∧ Ext w4 w5) ⟨by (repeat (first | assumption | (refine At.new' (by (first | omega | (simp; done) | (simp; omega))) _ _) | apply At.alloc | apply At.drewN | apply At.setRow | (apply At.setRow_neF; first | assumption | (apply Ne.symm; assumption) | omega) | (apply At.extF; assumption))), by (repeat (first | assumption | (refine At.new' (by (first | omega | (simp; done) | (simp; omega))) _ _) | apply At.alloc | apply At.drewN | apply At.setRow | (apply At.setRow_neF; first | assumption | (apply Ne.symm; assumption) | omega) | (apply At.extF; assumption))), by (repeat (first | exact Fr.refl _ _ | assumption | apply Fr.drewN | apply Fr.alloc | (apply Fr.transF; assumption) | (refine Fr.setRow ?_ _ (by first | exact Or.inr (by (first | omega | (simp; done) | (simp; omega))) | (exact Or.inl (by first | assumption | (simp; done)))))))⟩ ?_
  rintro w5 ⟨hp1, hp2, hx5⟩
  have hx5' := hx4'.trans hx5
  refine go_call rfl rfl (c_awake11 w5) ?_
  rintro _ w6 ⟨rfl, hx6⟩
  have hx6' := hx5'.trans hx6
  have hp3 := hp1.ext hx6
  have hp4 := hp2.ext hx6
  repeat (first | refine sp ?_ | (refine is_load ?_; refine ld ?_) | (refine is_store ?_; refine sr ?_) | (refine is_alloc ?_; refine al ?_) | (refine is_box ?_; refine bx ?_) | (refine isl_load ?_; refine ldl ?_) | (refine isl_store ?_; refine srl ?_) | (refine isl_alloc ?_; refine all' ?_) | (refine isl_box ?_; refine bxl ?_) | refine dr Try.follows ?_)
  refine go_call rfl rfl (c_SAdd x y w6 (by omega) (by omega)) ?_
  rintro _ w7 ⟨rfl, hx7⟩
  have hx7' := hx6'.trans hx7
  have hp5 := hp3.ext hx7
  have hp6 := hp4.ext hx7
  have hx27 := (((hx3.trans hx4).trans hx5).trans hx6).trans hx7
  repeat (first | refine sp ?_ | (refine is_load ?_; refine ld ?_) | (refine is_store ?_; refine sr ?_) | (refine is_alloc ?_; refine al ?_) | (refine is_box ?_; refine bx ?_) | (refine isl_load ?_; refine ldl ?_) | (refine isl_store ?_; refine srl ?_) | (refine isl_alloc ?_; refine all' ?_) | (refine isl_box ?_; refine bxl ?_) | refine dr Try.follows ?_)
  refine go_call rfl rfl (c_SOf w7 w2.heap.size _ (l ++ m) (hb.ext hx27) hx27.size hiE (by omega)) ?_
  rintro _ w8 ⟨rfl, hx8⟩
  rw [hsum]
  have hp7 := hp5.ext hx8
  have hp8 := hp6.ext hx8
  have hx28 := hx27.trans hx8
  obtain ⟨z, hzz⟩ : ∃ z, x.add y = z := ⟨_, rfl⟩
  rw [hzz]
  unfold Sm.cells
  repeat (first | refine sp ?_ | (refine is_load ?_; refine ld ?_) | (refine is_store ?_; refine sr ?_) | (refine is_alloc ?_; refine al ?_) | (refine is_box ?_; refine bx ?_) | (refine isl_load ?_; refine ldl ?_) | (refine isl_store ?_; refine srl ?_) | (refine isl_alloc ?_; refine all' ?_) | (refine isl_box ?_; refine bxl ?_) | refine dr Try.follows ?_)
  refine go_as 32 (u' := .bool true) rfl (by rw [sm_eq]) ?_
  refine go_as 33 (u' := .bool true) rfl (by rw [sm_eq]) ?_
  refine go_as 34 (u' := .bool true) rfl (by rw [sm_eq]) ?_
  repeat (first | refine sp ?_ | (refine is_load ?_; refine ld ?_) | (refine is_store ?_; refine sr ?_) | (refine is_alloc ?_; refine al ?_) | (refine is_box ?_; refine bx ?_) | (refine isl_load ?_; refine ldl ?_) | (refine isl_store ?_; refine srl ?_) | (refine isl_alloc ?_; refine all' ?_) | (refine isl_box ?_; refine bxl ?_) | refine dr Try.follows ?_)
  refine go_call rfl rfl (c_SAdd y x w8 (by omega) (by omega)) ?_
  rintro _ w9 ⟨rfl, hx9⟩
  rw [hcomm, hzz]
  have hx29 := hx28.trans hx9
  repeat (first | refine sp ?_ | (refine is_load ?_; refine ld ?_) | (refine is_store ?_; refine sr ?_) | (refine is_alloc ?_; refine al ?_) | (refine is_box ?_; refine bx ?_) | (refine isl_load ?_; refine ldl ?_) | (refine isl_store ?_; refine srl ?_) | (refine isl_alloc ?_; refine all' ?_) | (refine isl_box ?_; refine bxl ?_) | refine dr Try.follows ?_)
  refine go_call rfl rfl (c_SOf w9 w2.heap.size _ (l ++ m) (hb.ext hx29) hx29.size hiE (by omega)) ?_
  rintro _ w10 ⟨rfl, hx10⟩
  rw [hsum, hzz]
  unfold Sm.cells
  repeat (first | refine sp ?_ | (refine is_load ?_; refine ld ?_) | (refine is_store ?_; refine sr ?_) | (refine is_alloc ?_; refine al ?_) | (refine is_box ?_; refine bx ?_) | (refine isl_load ?_; refine ldl ?_) | (refine isl_store ?_; refine srl ?_) | (refine isl_alloc ?_; refine all' ?_) | (refine isl_box ?_; refine bxl ?_) | refine dr Try.follows ?_)
  exact go_ret1 rfl rfl ⟨_, rfl, by rw [sm_eq], hx2.trans (hx29.trans hx10)⟩

end Go.Proofs.Ytklgmomhdlhajaa
