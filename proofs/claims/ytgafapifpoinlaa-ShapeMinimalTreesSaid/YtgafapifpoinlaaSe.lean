/-
  The example of chapter 7; laws on trees that were made out of lists.
-/
import Derived.Test.YtgafapifpoinlaaSc
import Derived.Test.YtgafapifpoinlaaMod
set_option linter.unusedVariables false
namespace Go.Proofs.Ytgafapifpoinlaa
open Go.Vc

def minKeys (h : Int) : Int := if h < 0 ∨ 80 < h then -1 else wt h.toNat - 1

theorem c_SMinKeys (h : Int) (w : World) :
    Calls Try.prog 70 [.int .i64 h].toArray w (Ret fun v w' => v = .int .i64 (minKeys h) ∧ w' = w) := by
  refine calls_go Try.func70 rfl Try.ntmps70 (Nat.le_of_ble_eq_true rfl) ?_
  by_cases h1 : h < 0
  · repeat (first | refine sp ?_ | (refine is_load ?_; refine ld ?_) | (refine is_store ?_; refine sr ?_) | (refine is_alloc ?_; refine al ?_) | (refine is_box ?_; refine bx ?_))
    refine go_ret1 rfl rfl ⟨_, rfl, ?_, rfl⟩
    simp [minKeys, h1]
  by_cases h2 : 80 < h
  · repeat (first | refine sp ?_ | (refine is_load ?_; refine ld ?_) | (refine is_store ?_; refine sr ?_) | (refine is_alloc ?_; refine al ?_) | (refine is_box ?_; refine bx ?_))
    refine go_ret1 rfl rfl ⟨_, rfl, ?_, rfl⟩
    simp [minKeys, h2]
  obtain ⟨m, rfl⟩ := Int.eq_ofNat_of_zero_le (show 0 ≤ h by omega)
  repeat (first | refine sp ?_ | (refine is_load ?_; refine ld ?_) | (refine is_store ?_; refine sr ?_) | (refine is_alloc ?_; refine al ?_) | (refine is_box ?_; refine bx ?_))
  refine go_loop (G := Nat) [3, 4] (fun j => [.int .i64 (wt j), .int .i64 j]) [(0, .int .i64 m)] (fun j w' => j ≤ m ∧ w' = w) (fun j => m - j) 0 rfl ⟨rfl, trivial⟩ ⟨by omega, rfl⟩ ?_
  rintro j w' ⟨hj, rfl⟩
  by_cases hlt : j < m
  · have hp := wt_pos j
    have hb := wt_bd (show j ≤ 80 by omega)
    repeat (first | refine sp ?_ | (refine is_load ?_; refine ld ?_) | (refine is_store ?_; refine sr ?_) | (refine is_alloc ?_; refine al ?_) | (refine is_box ?_; refine bx ?_))
    refine go_stop (j+1) ?_ ⟨rfl, trivial⟩ ⟨by omega, rfl⟩ (by show m - (j+1) < m - j; omega)
    rfl
  · obtain rfl : j = m := by omega
    have hp := wt_pos j
    have hb := wt_bd (show j ≤ 80 by omega)
    repeat (first | refine sp ?_ | (refine is_load ?_; refine ld ?_) | (refine is_store ?_; refine sr ?_) | (refine is_alloc ?_; refine al ?_) | (refine is_box ?_; refine bx ?_))
    refine go_ret1 rfl rfl ⟨_, rfl, ?_, rfl⟩
    simp [minKeys, h1, h2]

theorem c_refMinKeys (h : Int) (w : World) :
    Calls Try.prog 47 [.int .i64 h].toArray w (Ret fun v w' => v = .int .i64 (minKeys h) ∧ Ext w w') := by
  refine calls_go Try.func47 rfl Try.ntmps47 (Nat.le_of_ble_eq_true rfl) ?_
  by_cases h1 : h < 0
  · repeat (first | refine sp ?_ | (refine is_load ?_; refine ld ?_) | (refine is_store ?_; refine sr ?_) | (refine is_alloc ?_; refine al ?_) | (refine is_box ?_; refine bx ?_))
    refine go_ret1 rfl rfl ⟨_, rfl, ?_, Fr.refl _ _⟩
    simp [minKeys, h1]
  by_cases h2 : 80 < h
  · repeat (first | refine sp ?_ | (refine is_load ?_; refine ld ?_) | (refine is_store ?_; refine sr ?_) | (refine is_alloc ?_; refine al ?_) | (refine is_box ?_; refine bx ?_))
    refine go_ret1 rfl rfl ⟨_, rfl, ?_, Fr.refl _ _⟩
    simp [minKeys, h2]
  obtain ⟨m, rfl⟩ := Int.eq_ofNat_of_zero_le (show 0 ≤ h by omega)
  have hb := wt_bd (show m ≤ 80 by omega)
  have hp := wt_pos m
  repeat (first | refine sp ?_ | (refine is_load ?_; refine ld ?_) | (refine is_store ?_; refine sr ?_) | (refine is_alloc ?_; refine al ?_) | (refine is_box ?_; refine bx ?_))
  refine go_call rfl rfl (c_weights w) ?_
  rintro v w1 ⟨rfl, hx⟩
  repeat (first | refine sp ?_ | (refine is_load ?_; refine ld ?_) | (refine is_store ?_; refine sr ?_) | (refine is_alloc ?_; refine al ?_) | (refine is_box ?_; refine bx ?_))
  refine go_p rfl (pr_indexV (j := m) rfl rfl rfl (by omega) (wget (by omega) (by omega))) ?_
  repeat (first | refine sp ?_ | (refine is_load ?_; refine ld ?_) | (refine is_store ?_; refine sr ?_) | (refine is_alloc ?_; refine al ?_) | (refine is_box ?_; refine bx ?_))
  refine go_ret1 rfl rfl ⟨_, rfl, ?_, hx⟩
  rw [minKeys, if_neg (by omega)]; rfl

theorem c_SMaxHeight (keys : Int) (w : World) :
    Calls Try.prog 46 [.int .i64 keys].toArray w (Ret fun v w' => v = .int .i64 (maxHeight keys) ∧ w' = w) := by
  refine calls_go Try.func46 rfl Try.ntmps46 (Nat.le_of_ble_eq_true rfl) ?_
  by_cases h1 : keys < 0
  · repeat (first | refine sp ?_ | (refine is_load ?_; refine ld ?_) | (refine is_store ?_; refine sr ?_) | (refine is_alloc ?_; refine al ?_) | (refine is_box ?_; refine bx ?_))
    refine go_ret1 rfl rfl ⟨_, rfl, ?_, rfl⟩
    simp [maxHeight, h1]
  by_cases h2 : 2147483647 < keys
  · repeat (first | refine sp ?_ | (refine is_load ?_; refine ld ?_) | (refine is_store ?_; refine sr ?_) | (refine is_alloc ?_; refine al ?_) | (refine is_box ?_; refine bx ?_))
    refine go_ret1 rfl rfl ⟨_, rfl, ?_, rfl⟩
    simp [maxHeight, h2]
  repeat (first | refine sp ?_ | (refine is_load ?_; refine ld ?_) | (refine is_store ?_; refine sr ?_) | (refine is_alloc ?_; refine al ?_) | (refine is_box ?_; refine bx ?_))
  refine go_loop (G := Nat) [3, 4] (fun j => [.int .i64 j, .int .i64 (wt j)]) [(0, .int .i64 keys)] (fun j w' => j ≤ 80 ∧ mh keys (80 - j) j = mh keys 80 0 ∧ w' = w) (fun j => 80 - j) 0 rfl ⟨rfl, trivial⟩ ⟨by omega, rfl, rfl⟩ ?_
  rintro j w' ⟨hj, hm, rfl⟩
  have hp := wt_pos j
  by_cases hlt : j < 80
  · have hb := wt_bd (show j + 1 ≤ 80 by omega)
    have hw : wt (j+1) = wt j + (wt j + 2) / 3 := rfl
    by_cases hk : wt (j+1) - 1 ≤ keys
    · have hm' := mh_step hlt hk
      rw [hw] at hk hb
      repeat (first | refine sp ?_ | (refine is_load ?_; refine ld ?_) | (refine is_store ?_; refine sr ?_) | (refine is_alloc ?_; refine al ?_) | (refine is_box ?_; refine bx ?_))
      exact go_stop (j+1) rfl ⟨rfl, trivial⟩ ⟨by omega, by rw [← hm']; exact hm, rfl⟩ (by show 80 - (j+1) < 80 - j; omega)
    · have hm' := mh_stop hlt hk
      rw [hw] at hk hb
      repeat (first | refine sp ?_ | (refine is_load ?_; refine ld ?_) | (refine is_store ?_; refine sr ?_) | (refine is_alloc ?_; refine al ?_) | (refine is_box ?_; refine bx ?_))
      refine go_ret1 rfl rfl ⟨_, rfl, ?_, rfl⟩
      rw [maxHeight_eq h1 h2, ← hm, hm']
  · obtain rfl : j = 80 := by omega
    repeat (first | refine sp ?_ | (refine is_load ?_; refine ld ?_) | (refine is_store ?_; refine sr ?_) | (refine is_alloc ?_; refine al ?_) | (refine is_box ?_; refine bx ?_))
    refine go_ret1 rfl rfl ⟨_, rfl, ?_, rfl⟩
    rw [maxHeight_eq h1 h2, ← hm]; rfl

theorem c_awake7 (w : World) : Calls Try.prog 39 [].toArray w (Ret fun v w' => v = .bool true ∧ w' = w) := by
  have e1 : minKeys 6 = 10 := by decide +kernel
  have e2 : maxHeight 9 = 5 := by decide +kernel
  refine calls_go Try.func39 rfl Try.ntmps39 (Nat.le_of_ble_eq_true rfl) ?_
  repeat (first | refine sp ?_ | (refine is_load ?_; refine ld ?_) | (refine is_store ?_; refine sr ?_) | (refine is_alloc ?_; refine al ?_) | (refine is_box ?_; refine bx ?_))
  refine go_call rfl rfl (c_SMinKeys 6 w) ?_
  rintro v w1 ⟨rfl, rfl⟩
  repeat (first | refine sp ?_ | (refine is_load ?_; refine ld ?_) | (refine is_store ?_; refine sr ?_) | (refine is_alloc ?_; refine al ?_) | (refine is_box ?_; refine bx ?_))
  refine go_call rfl rfl (c_SMaxHeight 9 w1) ?_
  rintro v w2 ⟨rfl, rfl⟩
  repeat (first | refine sp ?_ | (refine is_load ?_; refine ld ?_) | (refine is_store ?_; refine sr ?_) | (refine is_alloc ?_; refine al ?_) | (refine is_box ?_; refine bx ?_))
  refine go_call rfl rfl (c_SBal 0 2 w2) ?_
  rintro v w3 ⟨rfl, rfl⟩
  rw [show balanced 0 2 = true from rfl]
  repeat (first | refine sp ?_ | (refine is_load ?_; refine ld ?_) | (refine is_store ?_; refine sr ?_) | (refine is_alloc ?_; refine al ?_) | (refine is_box ?_; refine bx ?_))
  refine go_call rfl rfl (c_SBal 0 3 w3) ?_
  rintro v w4 ⟨rfl, rfl⟩
  rw [show balanced 0 3 = false from rfl]
  repeat (first | refine sp ?_ | (refine is_load ?_; refine ld ?_) | (refine is_store ?_; refine sr ?_) | (refine is_alloc ?_; refine al ?_) | (refine is_box ?_; refine bx ?_))
  exact go_ret1 rfl rfl ⟨_, rfl, rfl, rfl⟩

theorem TreeAt.hM {w0 w : World} {lo p : Nat} {q : AP} {B : AR} {t : Tr} (g : TreeAt w0 w lo p q B t) : ∀ a b, t.subs = a ++ b → SrtK a → a.length ≤ 1000000 := fun a b e _ => by
  have h1 := congrArg List.length e
  rw [t.subs_len, List.length_append] at h1
  have := g.sz; omega
theorem Tr.ht_sz : ∀ t : Tr, t.ht ≤ t.sz
  | .nil => Nat.le_refl _
  | .nd i l k v r => by
    have := Tr.ht_sz l
    have := Tr.ht_sz r
    show 1 + max l.ht r.ht ≤ l.sz + 1 + r.sz
    omega
theorem TreeAt.ok {w0 w : World} {lo p : Nat} {q : AP} {B : AR} {t : Tr} (g : TreeAt w0 w lo p q B t) {E : Int} (h : CkE' t E) : E = 0 := by
  have hs := g.sz
  rcases h with ⟨_, _, e⟩ | ⟨h, _⟩ | ⟨_, ⟨T, hT, hb⟩, _⟩
  · exact e
  · exact absurd ((srtK_iff t).2 g.srt) h
  · rw [Tr.bal_ok g.bal (by omega) T hT] at hb; cases hb

set_option maxHeartbeats 4000000 in
theorem c_LawAccepts (lv : Value) (l : List (Int × Int)) (tilt : Int) (w : World) (h : Rd w 0 lv entC l) (he : InE l) (hlen : l.length ≤ 9223372036854775807) (ht : 0 ≤ tilt ∧ tilt ≤ 18446744073709551615) :
    Calls Try.prog 13 [lv, .int .u64 tilt].toArray w (Ret fun v w' => v = .bool true ∧ Ext w w') := by
  refine calls_go Try.func13 rfl Try.ntmps13 (Nat.le_of_ble_eq_true rfl) ?_
  repeat (first | refine sp ?_ | (refine is_load ?_; refine ld ?_) | (refine is_store ?_; refine sr ?_) | (refine is_alloc ?_; refine al ?_) | (refine is_box ?_; refine bx ?_) | (refine isl_load ?_; refine ldl ?_) | (refine isl_store ?_; refine srl ?_) | (refine isl_alloc ?_; refine all' ?_) | (refine isl_box ?_; refine bxl ?_))
  refine go_call rfl rfl (c_List w lv l 200 h.up he hlen (by omega)) ?_
  rintro v1 w1 ⟨a, ha, hok, hx1⟩
  obtain ⟨sa, cap, rfl, hlc, _, _⟩ := ha
  have ha : RdU w1 w1.heap.size (.slice sa a.length cap) entC a := ⟨sa, cap, rfl, hlc, by assumption, by assumption⟩
  repeat (first | refine sp ?_ | (refine is_load ?_; refine ld ?_) | (refine is_store ?_; refine sr ?_) | (refine is_alloc ?_; refine al ?_) | (refine is_box ?_; refine bx ?_) | (refine isl_load ?_; refine ldl ?_) | (refine isl_store ?_; refine srl ?_) | (refine isl_alloc ?_; refine all' ?_) | (refine isl_box ?_; refine bxl ?_))
  refine go_call rfl rfl (c_GrowT w w1 a 200 _ tilt 1 ha hok (by omega) (by omega) (by omega) ht hx1) ?_
  rintro _ w2 ⟨lo, p, q, B, t, rfl, g, hen, hsz, hre, hcp, hpb, hx2, hfree⟩
  repeat (first | refine sp ?_ | (refine is_load ?_; refine ld ?_) | (refine is_store ?_; refine sr ?_) | (refine is_alloc ?_; refine al ?_) | (refine is_box ?_; refine bx ?_) | (refine isl_load ?_; refine ldl ?_) | (refine isl_store ?_; refine srl ?_) | (refine isl_alloc ?_; refine all' ?_) | (refine isl_box ?_; refine bxl ?_))
  refine go_call rfl rfl (c_awake7 w2) ?_
  rintro _ w2 ⟨rfl, rfl⟩
  have hal := hok.len
  have hH := Tr.ht_sz t
  have hs6 := g.sz
  have hpl := g.ar.lt p g.ar.fpp
  repeat (first | refine sp ?_ | (refine is_load ?_; refine ld ?_) | (refine is_store ?_; refine sr ?_) | (refine is_alloc ?_; refine al ?_) | (refine is_box ?_; refine bx ?_) | (refine isl_load ?_; refine ldl ?_) | (refine isl_store ?_; refine srl ?_) | (refine isl_alloc ?_; refine all' ?_) | (refine isl_box ?_; refine bxl ?_))
  refine go_call rfl rfl (c_Measure w2 lo p q B t g.ar g.inA (by omega) g.hM (by omega)) ?_
  rintro _ w3 ⟨⟨E, hE, rfl⟩, ⟨B3, n3, ha3, hB3⟩, hf3⟩
  obtain rfl := g.ok hE
  simp only [if_true]
  obtain ⟨B3', g3, hB3', _⟩ := g.rd (n := n3) ⟨B3, ha3, hB3, hf3⟩
  have hl3 := hf3.size
  repeat (first | refine sp ?_ | (refine is_load ?_; refine ld ?_) | (refine is_store ?_; refine sr ?_) | (refine is_alloc ?_; refine al ?_) | (refine is_box ?_; refine bx ?_) | (refine isl_load ?_; refine ldl ?_) | (refine isl_store ?_; refine srl ?_) | (refine isl_alloc ?_; refine all' ?_) | (refine isl_box ?_; refine bxl ?_))
  refine go_name (F := fun w4 => At w4 w3.heap.size [.int .i64 (t.sz : Int), .int .i64 (t.ht : Int)] 65 ∧ Ext w3 w4) ⟨by (repeat (first | assumption | (refine At.new' (by (first | omega | (simp; done) | (simp; omega))) _ _) | apply At.alloc | apply At.drewN | apply At.setRow | (apply At.setRow_neF; first | assumption | (apply Ne.symm; assumption) | omega) | (apply At.extF; assumption))), by (repeat (first | exact Fr.refl _ _ | assumption | apply Fr.drewN | apply Fr.alloc | (apply Fr.transF; assumption) | (refine Fr.setRow ?_ _ (by first | exact Or.inr (by (first | omega | (simp; done) | (simp; omega))) | (exact Or.inl (by first | assumption | (simp; done)))))))⟩ ?_
  rintro w4 ⟨hat, hx4⟩
  have g4 := g3.step hx4
  have hpn : ¬ w3.heap.size = p := by omega
  refine go_drawE (Fr (fun b => b = p) w4) 0 Try.follows (by kernel_rfl) (by kernel_rfl) (by kernel_rfl) ((Fr.refl _ _).drewN 1) ?_
  rw [hsz] at hat
  repeat (first | refine sp ?_ | (refine is_load ?_; refine ld ?_) | (refine is_store ?_; refine sr ?_) | (refine is_alloc ?_; refine al ?_) | (refine is_box ?_; refine bx ?_) | (refine isl_load ?_; refine ldl ?_) | (refine isl_store ?_; refine srl ?_) | (refine isl_alloc ?_; refine all' ?_) | (refine isl_box ?_; refine bxl ?_))
  have g5 := g4.step ((Fr.refl _ w4).drewN 1)
  refine gol_call rfl rfl (c_SCheck _ lo p q B3' t g5.ar g5.inA (by omega) g5.hM (by omega)) ?_
  rintro _ w6 ⟨⟨E, rfl, hE⟩, hR6, hf6⟩
  obtain ⟨B6, n6, ha6, hB6⟩ := hR6
  obtain rfl := g5.ok hE
  obtain ⟨B6', g6, hB6', _⟩ := g5.rd (n := n6) ⟨B6, ha6, hB6, hf6⟩
  have hf6' : Fr (fun b => b = p) w4 w6 := Fr.trans ((Fr.refl _ _).drewN 1) hf6
  refine ⟨hf6', ?_⟩
  repeat (first | refine sp ?_ | (refine is_load ?_; refine ld ?_) | (refine is_store ?_; refine sr ?_) | (refine is_alloc ?_; refine al ?_) | (refine is_box ?_; refine bx ?_) | (refine isl_load ?_; refine ldl ?_) | (refine isl_store ?_; refine srl ?_) | (refine isl_alloc ?_; refine all' ?_) | (refine isl_box ?_; refine bxl ?_))
  refine gol_call rfl rfl (p_Dump w6 lo p q B6' g6.ar) ?_
  rintro _ w7 ⟨hd7, hx7⟩
  refine ⟨hf6'.trans (Fr.of_ext hx7), ?_⟩
  obtain ⟨s1, c1, s2, c2, rfl, _, _⟩ := hd7.b
  have g7 := g6.step hx7
  repeat (first | refine sp ?_ | (refine is_load ?_; refine ld ?_) | (refine is_store ?_; refine sr ?_) | (refine is_alloc ?_; refine al ?_) | (refine is_box ?_; refine bx ?_) | (refine isl_load ?_; refine ldl ?_) | (refine isl_store ?_; refine srl ?_) | (refine isl_alloc ?_; refine all' ?_) | (refine isl_box ?_; refine bxl ?_))
  refine gol_call rfl rfl (c_ref7Height t w7 _ _ B6' g7.ar.wf hd7 g7.inA (by omega)) ?_
  rintro _ w8 ⟨rfl, hx8⟩
  refine ⟨(hf6'.trans (Fr.of_ext hx7)).trans (Fr.of_ext hx8), ?_⟩
  repeat (first | refine sp ?_ | (refine is_load ?_; refine ld ?_) | (refine is_store ?_; refine sr ?_) | (refine is_alloc ?_; refine al ?_) | (refine is_box ?_; refine bx ?_) | (refine isl_load ?_; refine ldl ?_) | (refine isl_store ?_; refine srl ?_) | (refine isl_alloc ?_; refine all' ?_) | (refine isl_box ?_; refine bxl ?_))
  exact go_ret1 rfl rfl ⟨_, rfl, rfl, g7.ext.trans hx8⟩

set_option maxHeartbeats 4000000 in
theorem c_LawHeight (lv : Value) (l : List (Int × Int)) (tilt : Int) (w : World) (h : Rd w 0 lv entC l) (he : InE l) (hlen : l.length ≤ 9223372036854775807) (ht : 0 ≤ tilt ∧ tilt ≤ 18446744073709551615) :
    Calls Try.prog 9 [lv, .int .u64 tilt].toArray w (Ret fun v w' => v = .bool true ∧ Ext w w') := by
  refine calls_go Try.func9 rfl Try.ntmps9 (Nat.le_of_ble_eq_true rfl) ?_
  repeat (first | refine sp ?_ | (refine is_load ?_; refine ld ?_) | (refine is_store ?_; refine sr ?_) | (refine is_alloc ?_; refine al ?_) | (refine is_box ?_; refine bx ?_) | (refine isl_load ?_; refine ldl ?_) | (refine isl_store ?_; refine srl ?_) | (refine isl_alloc ?_; refine all' ?_) | (refine isl_box ?_; refine bxl ?_))
  refine go_call rfl rfl (c_List w lv l 200 h.up he hlen (by omega)) ?_
  rintro v1 w1 ⟨a, ha, hok, hx1⟩
  obtain ⟨sa, cap, rfl, hlc, _, _⟩ := ha
  have ha : RdU w1 w1.heap.size (.slice sa a.length cap) entC a := ⟨sa, cap, rfl, hlc, by assumption, by assumption⟩
  repeat (first | refine sp ?_ | (refine is_load ?_; refine ld ?_) | (refine is_store ?_; refine sr ?_) | (refine is_alloc ?_; refine al ?_) | (refine is_box ?_; refine bx ?_) | (refine isl_load ?_; refine ldl ?_) | (refine isl_store ?_; refine srl ?_) | (refine isl_alloc ?_; refine all' ?_) | (refine isl_box ?_; refine bxl ?_))
  refine go_call rfl rfl (c_GrowT w w1 a 200 _ tilt 1 ha hok (by omega) (by omega) (by omega) ht hx1) ?_
  rintro _ w2 ⟨lo, p, q, B, t, rfl, g, hen, hsz, hre, hcp, hpb, hx2, hfree⟩
  repeat (first | refine sp ?_ | (refine is_load ?_; refine ld ?_) | (refine is_store ?_; refine sr ?_) | (refine is_alloc ?_; refine al ?_) | (refine is_box ?_; refine bx ?_) | (refine isl_load ?_; refine ldl ?_) | (refine isl_store ?_; refine srl ?_) | (refine isl_alloc ?_; refine all' ?_) | (refine isl_box ?_; refine bxl ?_))
  refine go_call rfl rfl (c_awake7 w2) ?_
  rintro _ w2 ⟨rfl, rfl⟩
  have hal := hok.len
  have hH := Tr.ht_sz t
  have hs6 := g.sz
  have hpl := g.ar.lt p g.ar.fpp
  repeat (first | refine sp ?_ | (refine is_load ?_; refine ld ?_) | (refine is_store ?_; refine sr ?_) | (refine is_alloc ?_; refine al ?_) | (refine is_box ?_; refine bx ?_) | (refine isl_load ?_; refine ldl ?_) | (refine isl_store ?_; refine srl ?_) | (refine isl_alloc ?_; refine all' ?_) | (refine isl_box ?_; refine bxl ?_))
  refine go_call rfl rfl (c_Measure w2 lo p q B t g.ar g.inA (by omega) g.hM (by omega)) ?_
  rintro _ w3 ⟨⟨E, hE, rfl⟩, ⟨B3, n3, ha3, hB3⟩, hf3⟩
  obtain rfl := g.ok hE
  simp only [if_true]
  obtain ⟨B3', g3, hB3', _⟩ := g.rd (n := n3) ⟨B3, ha3, hB3, hf3⟩
  have hl3 := hf3.size
  repeat (first | refine sp ?_ | (refine is_load ?_; refine ld ?_) | (refine is_store ?_; refine sr ?_) | (refine is_alloc ?_; refine al ?_) | (refine is_box ?_; refine bx ?_) | (refine isl_load ?_; refine ldl ?_) | (refine isl_store ?_; refine srl ?_) | (refine isl_alloc ?_; refine all' ?_) | (refine isl_box ?_; refine bxl ?_))
  refine go_name (F := fun w4 => At w4 w3.heap.size [.int .i64 (t.sz : Int), .int .i64 (t.ht : Int)] 65 ∧ Ext w3 w4) ⟨by (repeat (first | assumption | (refine At.new' (by (first | omega | (simp; done) | (simp; omega))) _ _) | apply At.alloc | apply At.drewN | apply At.setRow | (apply At.setRow_neF; first | assumption | (apply Ne.symm; assumption) | omega) | (apply At.extF; assumption))), by (repeat (first | exact Fr.refl _ _ | assumption | apply Fr.drewN | apply Fr.alloc | (apply Fr.transF; assumption) | (refine Fr.setRow ?_ _ (by first | exact Or.inr (by (first | omega | (simp; done) | (simp; omega))) | (exact Or.inl (by first | assumption | (simp; done)))))))⟩ ?_
  rintro w4 ⟨hat, hx4⟩
  have g4 := g3.step hx4
  have hpn : ¬ w3.heap.size = p := by omega
  have hhl := Tr.ht_le g4.bal (by omega)
  rw [hsz] at hhl
  refine go_drawE (Fr (fun b => b = p) w4) 0 Try.follows (by kernel_rfl) (by kernel_rfl) (by kernel_rfl) ((Fr.refl _ _).drewN 1) ?_
  repeat (first | refine sp ?_ | (refine is_load ?_; refine ld ?_) | (refine is_store ?_; refine sr ?_) | (refine is_alloc ?_; refine al ?_) | (refine is_box ?_; refine bx ?_) | (refine isl_load ?_; refine ldl ?_) | (refine isl_store ?_; refine srl ?_) | (refine isl_alloc ?_; refine all' ?_) | (refine isl_box ?_; refine bxl ?_))
  refine gol_call rfl rfl (c_SMaxHeight (a.length : Int) _) ?_
  rintro _ w5 ⟨rfl, rfl⟩
  refine ⟨(Fr.refl _ _).drewN 1, ?_⟩
  have hxd : Ext w4 (w4.drewN 1) := (Fr.refl _ _).drewN 1
  have g5 := g4.step hxd
  have hat5 := hat.ext hxd
  by_cases h0 : t.root = 0
  · have hz : t.ht = 0 := by have := g5.inA.root0 h0; rw [this]; rfl
    rw [hz] at hat hat5 hhl
    repeat (first | refine sp ?_ | (refine is_load ?_; refine ld ?_) | (refine is_store ?_; refine sr ?_) | (refine is_alloc ?_; refine al ?_) | (refine is_box ?_; refine bx ?_) | (refine isl_load ?_; refine ldl ?_) | (refine isl_store ?_; refine srl ?_) | (refine isl_alloc ?_; refine all' ?_) | (refine isl_box ?_; refine bxl ?_))
    exact go_ret1 rfl rfl ⟨_, rfl, rfl, g5.ext⟩
  · have hrt := g5.inA.rootlt g5.ar.wf
    repeat (first | refine sp ?_ | (refine is_load ?_; refine ld ?_) | (refine is_store ?_; refine sr ?_) | (refine is_alloc ?_; refine al ?_) | (refine is_box ?_; refine bx ?_) | (refine isl_load ?_; refine ldl ?_) | (refine isl_store ?_; refine srl ?_) | (refine isl_alloc ?_; refine all' ?_) | (refine isl_box ?_; refine bxl ?_))
    refine go_call rfl rfl (p_Node _ lo p q B3' t.root g5.ar hrt) ?_
    rintro _ w6 ⟨rfl, ha6, hf6⟩
    have g6 : TreeAt w w6 lo p q (B3'.read t.root) t := ⟨ha6, g5.inA.read _, g5.srt, g5.ine, g5.bal, g5.sz, g5.pb, (g5.ext.trans' hf6 fun b hb e => by have := g5.pb; omega), (Rds.read B3' t.root).snd g5.snd, g5.lof.1, Nat.le_trans g5.lof.2.1 hf6.size, g5.lof.2.2⟩
    have hat6 := hat5.fr hf6 hpn
    have hl6 := hf6.size
    obtain ⟨i, l', k, v, r', hT⟩ : ∃ i l' k v r', t = .nd i l' k v r' := by
      cases t with
      | nil => exact absurd rfl h0
      | nd i l' k v r' => exact ⟨i, l', k, v, r', rfl⟩
    have hrt : t.root = i := by rw [hT]; rfl
    have hsrt := g6.srt
    have hbal := g6.bal
    have hin5 := g5.inA
    rw [hT] at hsrt hbal hin5
    obtain ⟨hol, hor, _, _⟩ := hsrt.nd
    obtain ⟨hbb, hbl, hbr⟩ := hbal
    have htz : t.sz = l'.sz + 1 + r'.sz := by rw [hT]; rfl
    have hth : t.ht = 1 + max l'.ht r'.ht := by rw [hT]; rfl
    have hHl := Tr.ht_sz l'
    have hHr := Tr.ht_sz r'
    have hkn : B3'.nodeOf i = mkN B3' k v l'.root r'.root := hin5.nodeOf
    have hlr := mkN_lr B3' k v l'.root r'.root
    rw [← hkn] at hlr
    have hInl : InA (B3'.read i) l' := hin5.2.2.2.1.read _
    have hInr : InA (B3'.read i) r' := hin5.2.2.2.2.read _
    rw [hrt] at g6 ha6
    rw [hrt, show B3'.used i = true from hin5.2.1]
    obtain ⟨B6, hB6e⟩ : ∃ B6, B3'.read i = B6 := ⟨_, rfl⟩
    rw [hB6e] at g6 ha6 hInl hInr
    obtain ⟨N, hN⟩ : ∃ N, B3'.nodeOf i = N := ⟨_, rfl⟩
    rw [hN] at hlr ⊢
    unfold Nd.cells
    rw [hlr.2.2.1, hlr.2.2.2]
    repeat (first | refine sp ?_ | (refine is_load ?_; refine ld ?_) | (refine is_store ?_; refine sr ?_) | (refine is_alloc ?_; refine al ?_) | (refine is_box ?_; refine bx ?_) | (refine isl_load ?_; refine ldl ?_) | (refine isl_store ?_; refine srl ?_) | (refine isl_alloc ?_; refine all' ?_) | (refine isl_box ?_; refine bxl ?_))
    have hatl := hat6.lt
    refine go_name (F := fun w7 => At w7 w3.heap.size [.int .i64 (t.sz : Int), .int .i64 (t.ht : Int)] 65 ∧ At w7 w6.heap.size [.int .i64 N.key, .int .i64 N.val, .int .u32 (l'.root : Int), .int .u32 (r'.root : Int), .int .i64 N.size, .int .i64 N.sum, .int .i64 N.mn, .int .i64 N.mx] 52 ∧ Ext w6 w7) ⟨by (repeat (first | assumption | (refine At.new' (by (first | omega | (simp; done) | (simp; omega))) _ _) | apply At.alloc | apply At.drewN | apply At.setRow | (apply At.setRow_neF; first | assumption | (apply Ne.symm; assumption) | omega) | (apply At.extF; assumption))), by (repeat (first | assumption | (refine At.new' (by (first | omega | (simp; done) | (simp; omega))) _ _) | apply At.alloc | apply At.drewN | apply At.setRow | (apply At.setRow_neF; first | assumption | (apply Ne.symm; assumption) | omega) | (apply At.extF; assumption))), by (repeat (first | exact Fr.refl _ _ | assumption | apply Fr.drewN | apply Fr.alloc | (apply Fr.transF; assumption) | (refine Fr.setRow ?_ _ (by first | exact Or.inr (by (first | omega | (simp; done) | (simp; omega))) | (exact Or.inl (by first | assumption | (simp; done)))))))⟩ ?_
    rintro w7 ⟨hs7, hn7, hx7⟩
    have hpl6 := g6.ar.lt p g6.ar.fpp
    have ha7 := g6.ar.ext hx7
    have hMl : ∀ a b, l'.subs = a ++ b → SrtK a → a.length ≤ 1000000 := fun a b e _ => by
      have h1 := congrArg List.length e
      rw [l'.subs_len, List.length_append] at h1; omega
    have hMr : ∀ a b, r'.subs = a ++ b → SrtK a → a.length ≤ 1000000 := fun a b e _ => by
      have h1 := congrArg List.length e
      rw [r'.subs_len, List.length_append] at h1; omega
    repeat (first | refine sp ?_ | (refine is_load ?_; refine ld ?_) | (refine is_store ?_; refine sr ?_) | (refine is_alloc ?_; refine al ?_) | (refine is_box ?_; refine bx ?_) | (refine isl_load ?_; refine ldl ?_) | (refine isl_store ?_; refine srl ?_) | (refine isl_alloc ?_; refine all' ?_) | (refine isl_box ?_; refine bxl ?_))
    refine go_call rfl rfl (c_Measure w7 lo p q B6 l' ha7 hInl (by omega) hMl (by omega)) ?_
    rintro _ w8 ⟨⟨E, hE, rfl⟩, ⟨B8, n8, ha8, hB8⟩, hf8⟩
    have hE0 : E = 0 := by
      rcases hE with ⟨_, _, e⟩ | ⟨h, _⟩ | ⟨_, ⟨T, hT, hb⟩, _⟩
      · exact e
      · exact absurd ((srtK_iff l').2 hol) h
      · rw [Tr.bal_ok hbl (by omega) T hT] at hb; cases hb
    subst hE0
    simp only [if_true]
    have hs8 := hs7.fr hf8 hpn
    have hn8 := hn7.fr hf8 (by omega)
    have hl7 := hx7.size
    have hl8 := hf8.size
    have hs8l := hs8.lt
    have hn8l := hn8.lt
    repeat (first | refine sp ?_ | (refine is_load ?_; refine ld ?_) | (refine is_store ?_; refine sr ?_) | (refine is_alloc ?_; refine al ?_) | (refine is_box ?_; refine bx ?_) | (refine isl_load ?_; refine ldl ?_) | (refine isl_store ?_; refine srl ?_) | (refine isl_alloc ?_; refine all' ?_) | (refine isl_box ?_; refine bxl ?_))
    refine go_name (F := fun w9 => At w9 w3.heap.size [.int .i64 (t.sz : Int), .int .i64 (t.ht : Int)] 65 ∧ At w9 w6.heap.size [.int .i64 N.key, .int .i64 N.val, .int .u32 (l'.root : Int), .int .u32 (r'.root : Int), .int .i64 N.size, .int .i64 N.sum, .int .i64 N.mn, .int .i64 N.mx] 52 ∧ At w9 w8.heap.size [.int .i64 (l'.sz : Int), .int .i64 (l'.ht : Int)] 65 ∧ Ext w8 w9) ⟨by (repeat (first | assumption | (refine At.new' (by (first | omega | (simp; done) | (simp; omega))) _ _) | apply At.alloc | apply At.drewN | apply At.setRow | (apply At.setRow_neF; first | assumption | (apply Ne.symm; assumption) | omega) | (apply At.extF; assumption))), by (repeat (first | assumption | (refine At.new' (by (first | omega | (simp; done) | (simp; omega))) _ _) | apply At.alloc | apply At.drewN | apply At.setRow | (apply At.setRow_neF; first | assumption | (apply Ne.symm; assumption) | omega) | (apply At.extF; assumption))), by (repeat (first | assumption | (refine At.new' (by (first | omega | (simp; done) | (simp; omega))) _ _) | apply At.alloc | apply At.drewN | apply At.setRow | (apply At.setRow_neF; first | assumption | (apply Ne.symm; assumption) | omega) | (apply At.extF; assumption))), by (repeat (first | exact Fr.refl _ _ | assumption | apply Fr.drewN | apply Fr.alloc | (apply Fr.transF; assumption) | (refine Fr.setRow ?_ _ (by first | exact Or.inr (by (first | omega | (simp; done) | (simp; omega))) | (exact Or.inl (by first | assumption | (simp; done)))))))⟩ ?_
    rintro w9 ⟨hs9, hn9, hm9, hx9⟩
    refine go_call rfl rfl (c_Measure w9 lo p q B8 r' (ha8.ext hx9) (hB8.inA hInr) (by omega) hMr (by omega)) ?_
    rintro _ w10 ⟨⟨E, hE, rfl⟩, ⟨B10, n10, ha10, hB10⟩, hf10⟩
    have hE0 : E = 0 := by
      rcases hE with ⟨_, _, e⟩ | ⟨h, _⟩ | ⟨_, ⟨T, hT, hb⟩, _⟩
      · exact e
      · exact absurd ((srtK_iff r').2 hor) h
      · rw [Tr.bal_ok hbr (by omega) T hT] at hb; cases hb
    subst hE0
    simp only [if_true]
    have hs10 := hs9.fr hf10 hpn
    have hm10 := hm9.fr hf10 (by omega)
    have hl9 := hm9.lt
    have hl10 := hf10.size
    have hmx : (if (r'.ht : Int) > (l'.ht : Int) then (r'.ht : Int) else (l'.ht : Int)) + 1 = (t.ht : Int) := by
      rw [hth]; split <;> omega
    have hX : Ext w w10 := ((((g6.ext.trans hx7).trans' hf8 fun b hb e => by have := g5.pb; omega).trans hx9).trans' hf10 fun b hb e => by have := g5.pb; omega)
    repeat (first | refine sp ?_ | (refine is_load ?_; refine ld ?_) | (refine is_store ?_; refine sr ?_) | (refine is_alloc ?_; refine al ?_) | (refine is_box ?_; refine bx ?_) | (refine isl_load ?_; refine ldl ?_) | (refine isl_store ?_; refine srl ?_) | (refine isl_alloc ?_; refine all' ?_) | (refine isl_box ?_; refine bxl ?_))
    exact go_ret1 rfl rfl ⟨_, rfl, rfl, hX.trans (by (repeat (first | exact Fr.refl _ _ | assumption | apply Fr.drewN | apply Fr.alloc | (apply Fr.transF; assumption) | (refine Fr.setRow ?_ _ (by first | exact Or.inr (by (first | omega | (simp; done) | (simp; omega))) | (exact Or.inl (by first | assumption | (simp; done))))))))⟩

end Go.Proofs.Ytgafapifpoinlaa
