/-
  The law 'decodes' and the law 'limit'.
-/
import Derived.Test.YtfgkleggbcpinaaF17
set_option linter.unusedVariables false
namespace Go.Proofs.Ytfgkleggbcpinaa
open Go.Vc

theorem sameB_self (l : List (BitVec 8)) : sameB l l = true := decide_eq_true rfl

theorem nextP_len (l : List (BitVec 8)) (a : Int) : (nextP l a).1.length ≤ l.length := by
  unfold nextP
  split
  · simp
  · split
    · simp
    · split
      · simp
      · split
        · simp
        · simp; omega

set_option maxHeartbeats 2000000 in
theorem c_LawDecodes (v u : Value) (l m : List (BitVec 8)) (a : Int) (c kd : BitVec 8) (w : World) (hl : l.length ≤ 9223372036854775807) (hm : m.length ≤ 9223372036854775807) (hv : By w v l) (hu : By w u m)
    (ha : -9223372036854775808 ≤ a ∧ a ≤ 9223372036854775807) :
    Calls Try.prog 9 [v, u, .int .i64 a, u8 c, u8 kd].toArray w (Ret fun r w' => r = .bool true ∧ Ext w w') := by
  have hb := hv
  have hb2 := hu
  obtain ⟨sa, cap, rfl, hcap, hr⟩ := hv
  obtain ⟨sb, cbp, rfl, hcbp, hs⟩ := hu
  refine calls_go Try.func9 rfl Try.ntmps9 (Nat.le_of_ble_eq_true rfl) ?_
  by_cases h6 : 600 < l.length
  · repeat (first | refine sp ?_ | (refine is_load ?_; refine ld ?_) | (refine is_store ?_; refine sr ?_) | (refine is_alloc ?_; refine al ?_) | (refine is_box ?_; refine bx ?_))
    refine go_call rfl rfl (c_awake w) ?_
    rintro r w1 ⟨rfl, hx⟩
    repeat (first | refine sp ?_ | (refine is_load ?_; refine ld ?_) | (refine is_store ?_; refine sr ?_) | (refine is_alloc ?_; refine al ?_) | (refine is_box ?_; refine bx ?_))
    exact go_ret1 rfl rfl ⟨_, rfl, rfl, hx⟩
  by_cases h7 : 600 < m.length
  · repeat (first | refine sp ?_ | (refine is_load ?_; refine ld ?_) | (refine is_store ?_; refine sr ?_) | (refine is_alloc ?_; refine al ?_) | (refine is_box ?_; refine bx ?_))
    refine go_call rfl rfl (c_awake w) ?_
    rintro r w1 ⟨rfl, hx⟩
    repeat (first | refine sp ?_ | (refine is_load ?_; refine ld ?_) | (refine is_store ?_; refine sr ?_) | (refine is_alloc ?_; refine al ?_) | (refine is_box ?_; refine bx ?_))
    exact go_ret1 rfl rfl ⟨_, rfl, rfl, hx⟩
  have hfl := frame_len m
  repeat (first | refine sp ?_ | (refine is_load ?_; refine ld ?_) | (refine is_store ?_; refine sr ?_) | (refine is_alloc ?_; refine al ?_) | (refine is_box ?_; refine bx ?_))
  refine go_call rfl rfl (c_refFrame _ m w (by omega) hb2) ?_
  rintro r w1 ⟨hox, hx⟩
  have hoxb := hox.by
  obtain ⟨sx, cx, rfl, hcx, hrx⟩ := hox.by
  generalize hF : frame m = fr at *
  have hk1 := Int.emod_nonneg a (show (fr.length : Int) ≠ 0 by omega)
  have hk2 := Int.emod_lt_of_pos a (show 0 < (fr.length : Int) by omega)
  repeat (first | refine sp ?_ | (refine is_load ?_; refine ld ?_) | (refine is_store ?_; refine sr ?_) | (refine is_alloc ?_; refine al ?_) | (refine is_box ?_; refine bx ?_))
  refine go_call rfl rfl (c_Mod a fr.length w1 ha (by omega)) ?_
  rintro r w2 ⟨rfl, rfl⟩
  generalize a % (fr.length : Int) = ki at *
  obtain ⟨k, rfl⟩ : ∃ k : Nat, ki = k := ⟨ki.toNat, by omega⟩
  repeat (first | refine sp ?_ | (refine is_load ?_; refine ld ?_) | (refine is_store ?_; refine sr ?_) | (refine is_alloc ?_; refine al ?_) | (refine is_box ?_; refine bx ?_))
  refine go_p rfl (pr_sl (lo := 0) (hi := k) (by decide) rfl rfl ⟨_, _, rfl, rfl⟩ (by omega) (by omega)) ?_
  refine go_p rfl (pr_basic0 rfl) ?_
  refine go_lit rfl rfl rfl (by decide) (by decide) rfl ?_
  have hx2 : Ext w (w2.alloc (.cells #[u8 c] 5)) := hx.alloc _
  have hlt : By (w2.alloc (.cells #[u8 c] 5)) (.slice (some ⟨w2.heap.size, 0, none⟩) 1 1) [c] := by
    refine ⟨_, _, rfl, Nat.le_refl _, fun j q hj => ⟨_, _, rfl, ?_⟩⟩
    have := (At.new w2 [u8 c] 5).cell (i := j) (v := q) hj
    simpa using this
  have hcutk := (byCut (lo := 0) (hi := k) hrx (by omega) (by omega) hcx).ext ((Fr.refl _ _).alloc (.cells #[u8 c] 5))
  have hcuts := (byCut (lo := k) (hi := fr.length) hrx (by omega) (by omega) hcx).ext ((Fr.refl _ _).alloc (.cells #[u8 c] 5))
  have hcuts1 := (byCut (lo := k + 1) (hi := fr.length) hrx (by omega) (by omega) hcx).ext ((Fr.refl _ _).alloc (.cells #[u8 c] 5))
  have hl0 : ((fr.take k).drop 0).length ≤ 614 := by simp; omega
  have hl1 : ((fr.take fr.length).drop k).length ≤ 614 := by simp; omega
  have hl2 : ((fr.take fr.length).drop (k + 1)).length ≤ 614 := by simp; omega
  generalize hw3 : w2.alloc (.cells #[u8 c] 5) = w3 at *
  generalize (fr.take k).drop 0 = f1 at *
  generalize (fr.take fr.length).drop k = f2 at *
  generalize (fr.take fr.length).drop (k + 1) = f3 at *
  refine go_call rfl rfl (c_Join _ _ f1 [c] w3 (by simp; omega) hcutk hlt) ?_
  rintro r w4 ⟨hoy, hx4⟩
  have hx4' := hx2.trans hx4
  have hy4 := hoy.by
  have hll : (f1 ++ [c]).length ≤ 620 := by simp; omega
  obtain ⟨sy, cy, rfl, hcy, hry⟩ := hoy.by
  have hkl := kd.isLt
  repeat (first | refine sp ?_ | (refine is_load ?_; refine ld ?_) | (refine is_store ?_; refine sr ?_) | (refine is_alloc ?_; refine al ?_) | (refine is_box ?_; refine bx ?_))
  have h4 : kd.toNat % 4 = 0 ∨ kd.toNat % 4 = 1 ∨ kd.toNat % 4 = 2 ∨ kd.toNat % 4 = 3 := by omega
  rcases h4 with h4 | h4 | h4 | h4
  · repeat (first | refine sp ?_ | (refine is_load ?_; refine ld ?_) | (refine is_store ?_; refine sr ?_) | (refine is_alloc ?_; refine al ?_) | (refine is_box ?_; refine bx ?_))
    refine go_p rfl (pr_sl (lo := k + 1) (hi := fr.length) (by decide) rfl ⟨_, _, rfl, by simp⟩ rfl (by omega) (by omega)) ?_
    refine go_call rfl rfl (c_Join _ _ _ f3 w4 (by omega) hy4 (hcuts1.ext hx4)) ?_
    rintro r w5 ⟨ho5, hx5⟩
    have hx5' := hx4'.trans hx5
    have hy5 := ho5.by
    have hl5 : (f1 ++ [c] ++ f3).length ≤ 2000 := by rw [List.length_append]; omega
    generalize f1 ++ [c] ++ f3 = ly at *
    clear ho5
    repeat (first | refine sp ?_ | (refine is_load ?_; refine ld ?_) | (refine is_store ?_; refine sr ?_) | (refine is_alloc ?_; refine al ?_) | (refine is_box ?_; refine bx ?_))
    refine go_call rfl rfl (c_Next _ l a w5 (by omega) (hb.ext hx5') ha) ?_
    rintro r w6 ⟨p1, rfl, hp1, hx6⟩
    have hx6' := hx5'.trans hx6
    repeat (first | refine sp ?_ | (refine is_load ?_; refine ld ?_) | (refine is_store ?_; refine sr ?_) | (refine is_alloc ?_; refine al ?_) | (refine is_box ?_; refine bx ?_))
    refine go_call rfl rfl (c_refNext _ l a w6 (by omega) (hb.ext hx6') ha) ?_
    rintro r w7 ⟨p2, rfl, hp2, hx7⟩
    have hx7' := hx6'.trans hx7
    have hpl := nextP_len l a
    generalize nextP l a = q1 at *
    repeat (first | refine sp ?_ | (refine is_load ?_; refine ld ?_) | (refine is_store ?_; refine sr ?_) | (refine is_alloc ?_; refine al ?_) | (refine is_box ?_; refine bx ?_))
    refine go_call rfl rfl (c_Next _ ly 0 w7 (by omega) ((hy5.ext hx6).ext hx7) (by omega)) ?_
    rintro r w8 ⟨p3, rfl, hp3, hx8⟩
    have hx8' := hx7'.trans hx8
    repeat (first | refine sp ?_ | (refine is_load ?_; refine ld ?_) | (refine is_store ?_; refine sr ?_) | (refine is_alloc ?_; refine al ?_) | (refine is_box ?_; refine bx ?_))
    refine go_call rfl rfl (c_refNext _ ly 0 w8 (by omega) (((hy5.ext hx6).ext hx7).ext hx8) (by omega)) ?_
    rintro r w9 ⟨p4, rfl, hp4, hx9⟩
    have hx9' := hx8'.trans hx9
    repeat (first | refine sp ?_ | (refine is_load ?_; refine ld ?_) | (refine is_store ?_; refine sr ?_) | (refine is_alloc ?_; refine al ?_) | (refine is_box ?_; refine bx ?_))
    refine go_call rfl rfl (c_awake w9) ?_
    rintro r w10 ⟨rfl, hx10⟩
    have hx10' := hx9'.trans hx10
    repeat (first | refine sp ?_ | (refine is_load ?_; refine ld ?_) | (refine is_store ?_; refine sr ?_) | (refine is_alloc ?_; refine al ?_) | (refine is_box ?_; refine bx ?_))
    refine go_call rfl rfl (c_Same _ _ _ _ w10 (by omega) (((((hp1.by.ext hx7).ext hx8).ext hx9).ext hx10)) (((hp2.by.ext hx8).ext hx9).ext hx10)) ?_
    rintro r w11 ⟨rfl, hx11⟩
    have hx11' := hx10'.trans hx11
    rw [sameB_self]
    repeat (first | refine sp ?_ | (refine is_load ?_; refine ld ?_) | (refine is_store ?_; refine sr ?_) | (refine is_alloc ?_; refine al ?_) | (refine is_box ?_; refine bx ?_))
    refine go_call rfl rfl (c_Same _ _ _ _ w11 (by have := (nextP_len ly 0); omega) (((hp3.by.ext hx9).ext hx10).ext hx11) ((hp4.by.ext hx10).ext hx11)) ?_
    rintro r w12 ⟨rfl, hx12⟩
    have hx12' := hx11'.trans hx12
    rw [sameB_self]
    repeat (first | refine sp ?_ | (refine is_load ?_; refine ld ?_) | (refine is_store ?_; refine sr ?_) | (refine is_alloc ?_; refine al ?_) | (refine is_box ?_; refine bx ?_))
    exact go_ret1 rfl rfl ⟨_, rfl, rfl, hx12'⟩
  · repeat (first | refine sp ?_ | (refine is_load ?_; refine ld ?_) | (refine is_store ?_; refine sr ?_) | (refine is_alloc ?_; refine al ?_) | (refine is_box ?_; refine bx ?_) | (refine isl_load ?_; refine ldl ?_) | (refine isl_store ?_; refine srl ?_) | (refine isl_alloc ?_; refine all' ?_) | (refine isl_box ?_; refine bxl ?_) | refine dr Try.follows ?_)
    refine gol_p rfl rfl (pr_sl (lo := 0) (hi := k) (by decide) rfl rfl ⟨_, _, rfl, rfl⟩ (by omega) (by omega)) ?_
    repeat (first | refine sp ?_ | (refine is_load ?_; refine ld ?_) | (refine is_store ?_; refine sr ?_) | (refine is_alloc ?_; refine al ?_) | (refine is_box ?_; refine bx ?_) | (refine isl_load ?_; refine ldl ?_) | (refine isl_store ?_; refine srl ?_) | (refine isl_alloc ?_; refine all' ?_) | (refine isl_box ?_; refine bxl ?_) | refine dr Try.follows ?_)
    refine gol_p rfl rfl (pr_sl (lo := k + 1) (hi := fr.length) (by decide) rfl ⟨_, _, rfl, by simp⟩ rfl (by omega) (by omega)) ?_
    have hdw : Ext w4 (w4.drewN 1) := (Fr.refl _ _).drewN 1
    refine gol_call rfl rfl (c_Join _ _ f1 f3 (w4.drewN 1) (by omega) ((hcutk.ext hx4).ext hdw) ((hcuts1.ext hx4).ext hdw)) ?_
    rintro r w5 ⟨ho5, hx5⟩
    refine ⟨hdw.trans hx5, ?_⟩
    have hx5' := (hx4'.trans hdw).trans hx5
    have hy5 := ho5.by
    have hl5 : (f1 ++ f3).length ≤ 2000 := by rw [List.length_append]; omega
    generalize f1 ++ f3 = ly at *
    clear ho5
    repeat (first | refine sp ?_ | (refine is_load ?_; refine ld ?_) | (refine is_store ?_; refine sr ?_) | (refine is_alloc ?_; refine al ?_) | (refine is_box ?_; refine bx ?_) | (refine isl_load ?_; refine ldl ?_) | (refine isl_store ?_; refine srl ?_) | (refine isl_alloc ?_; refine all' ?_) | (refine isl_box ?_; refine bxl ?_) | refine dr Try.follows ?_)
    refine go_call rfl rfl (c_Next _ l a w5 (by omega) (hb.ext hx5') ha) ?_
    rintro r w6 ⟨p1, rfl, hp1, hx6⟩
    have hx6' := hx5'.trans hx6
    repeat (first | refine sp ?_ | (refine is_load ?_; refine ld ?_) | (refine is_store ?_; refine sr ?_) | (refine is_alloc ?_; refine al ?_) | (refine is_box ?_; refine bx ?_))
    refine go_call rfl rfl (c_refNext _ l a w6 (by omega) (hb.ext hx6') ha) ?_
    rintro r w7 ⟨p2, rfl, hp2, hx7⟩
    have hx7' := hx6'.trans hx7
    have hpl := nextP_len l a
    generalize nextP l a = q1 at *
    repeat (first | refine sp ?_ | (refine is_load ?_; refine ld ?_) | (refine is_store ?_; refine sr ?_) | (refine is_alloc ?_; refine al ?_) | (refine is_box ?_; refine bx ?_))
    refine go_call rfl rfl (c_Next _ ly 0 w7 (by omega) ((hy5.ext hx6).ext hx7) (by omega)) ?_
    rintro r w8 ⟨p3, rfl, hp3, hx8⟩
    have hx8' := hx7'.trans hx8
    repeat (first | refine sp ?_ | (refine is_load ?_; refine ld ?_) | (refine is_store ?_; refine sr ?_) | (refine is_alloc ?_; refine al ?_) | (refine is_box ?_; refine bx ?_))
    refine go_call rfl rfl (c_refNext _ ly 0 w8 (by omega) (((hy5.ext hx6).ext hx7).ext hx8) (by omega)) ?_
    rintro r w9 ⟨p4, rfl, hp4, hx9⟩
    have hx9' := hx8'.trans hx9
    repeat (first | refine sp ?_ | (refine is_load ?_; refine ld ?_) | (refine is_store ?_; refine sr ?_) | (refine is_alloc ?_; refine al ?_) | (refine is_box ?_; refine bx ?_))
    refine go_call rfl rfl (c_awake w9) ?_
    rintro r w10 ⟨rfl, hx10⟩
    have hx10' := hx9'.trans hx10
    repeat (first | refine sp ?_ | (refine is_load ?_; refine ld ?_) | (refine is_store ?_; refine sr ?_) | (refine is_alloc ?_; refine al ?_) | (refine is_box ?_; refine bx ?_))
    refine go_call rfl rfl (c_Same _ _ _ _ w10 (by omega) (((((hp1.by.ext hx7).ext hx8).ext hx9).ext hx10)) (((hp2.by.ext hx8).ext hx9).ext hx10)) ?_
    rintro r w11 ⟨rfl, hx11⟩
    have hx11' := hx10'.trans hx11
    rw [sameB_self]
    repeat (first | refine sp ?_ | (refine is_load ?_; refine ld ?_) | (refine is_store ?_; refine sr ?_) | (refine is_alloc ?_; refine al ?_) | (refine is_box ?_; refine bx ?_))
    refine go_call rfl rfl (c_Same _ _ _ _ w11 (by have := (nextP_len ly 0); omega) (((hp3.by.ext hx9).ext hx10).ext hx11) ((hp4.by.ext hx10).ext hx11)) ?_
    rintro r w12 ⟨rfl, hx12⟩
    have hx12' := hx11'.trans hx12
    rw [sameB_self]
    repeat (first | refine sp ?_ | (refine is_load ?_; refine ld ?_) | (refine is_store ?_; refine sr ?_) | (refine is_alloc ?_; refine al ?_) | (refine is_box ?_; refine bx ?_))
    exact go_ret1 rfl rfl ⟨_, rfl, rfl, hx12'⟩
  · repeat (first | refine sp ?_ | (refine is_load ?_; refine ld ?_) | (refine is_store ?_; refine sr ?_) | (refine is_alloc ?_; refine al ?_) | (refine is_box ?_; refine bx ?_))
    refine go_p rfl (pr_sl (lo := k) (hi := fr.length) (by decide) rfl ⟨_, _, rfl, rfl⟩ rfl (by omega) (by omega)) ?_
    refine go_call rfl rfl (c_Join _ _ _ f2 w4 (by omega) hy4 (hcuts.ext hx4)) ?_
    rintro r w5 ⟨ho5, hx5⟩
    have hx5' := hx4'.trans hx5
    have hy5 := ho5.by
    have hl5 : (f1 ++ [c] ++ f2).length ≤ 2000 := by rw [List.length_append]; omega
    generalize f1 ++ [c] ++ f2 = ly at *
    clear ho5
    repeat (first | refine sp ?_ | (refine is_load ?_; refine ld ?_) | (refine is_store ?_; refine sr ?_) | (refine is_alloc ?_; refine al ?_) | (refine is_box ?_; refine bx ?_))
    refine go_call rfl rfl (c_Next _ l a w5 (by omega) (hb.ext hx5') ha) ?_
    rintro r w6 ⟨p1, rfl, hp1, hx6⟩
    have hx6' := hx5'.trans hx6
    repeat (first | refine sp ?_ | (refine is_load ?_; refine ld ?_) | (refine is_store ?_; refine sr ?_) | (refine is_alloc ?_; refine al ?_) | (refine is_box ?_; refine bx ?_))
    refine go_call rfl rfl (c_refNext _ l a w6 (by omega) (hb.ext hx6') ha) ?_
    rintro r w7 ⟨p2, rfl, hp2, hx7⟩
    have hx7' := hx6'.trans hx7
    have hpl := nextP_len l a
    generalize nextP l a = q1 at *
    repeat (first | refine sp ?_ | (refine is_load ?_; refine ld ?_) | (refine is_store ?_; refine sr ?_) | (refine is_alloc ?_; refine al ?_) | (refine is_box ?_; refine bx ?_))
    refine go_call rfl rfl (c_Next _ ly 0 w7 (by omega) ((hy5.ext hx6).ext hx7) (by omega)) ?_
    rintro r w8 ⟨p3, rfl, hp3, hx8⟩
    have hx8' := hx7'.trans hx8
    repeat (first | refine sp ?_ | (refine is_load ?_; refine ld ?_) | (refine is_store ?_; refine sr ?_) | (refine is_alloc ?_; refine al ?_) | (refine is_box ?_; refine bx ?_))
    refine go_call rfl rfl (c_refNext _ ly 0 w8 (by omega) (((hy5.ext hx6).ext hx7).ext hx8) (by omega)) ?_
    rintro r w9 ⟨p4, rfl, hp4, hx9⟩
    have hx9' := hx8'.trans hx9
    repeat (first | refine sp ?_ | (refine is_load ?_; refine ld ?_) | (refine is_store ?_; refine sr ?_) | (refine is_alloc ?_; refine al ?_) | (refine is_box ?_; refine bx ?_))
    refine go_call rfl rfl (c_awake w9) ?_
    rintro r w10 ⟨rfl, hx10⟩
    have hx10' := hx9'.trans hx10
    repeat (first | refine sp ?_ | (refine is_load ?_; refine ld ?_) | (refine is_store ?_; refine sr ?_) | (refine is_alloc ?_; refine al ?_) | (refine is_box ?_; refine bx ?_))
    refine go_call rfl rfl (c_Same _ _ _ _ w10 (by omega) (((((hp1.by.ext hx7).ext hx8).ext hx9).ext hx10)) (((hp2.by.ext hx8).ext hx9).ext hx10)) ?_
    rintro r w11 ⟨rfl, hx11⟩
    have hx11' := hx10'.trans hx11
    rw [sameB_self]
    repeat (first | refine sp ?_ | (refine is_load ?_; refine ld ?_) | (refine is_store ?_; refine sr ?_) | (refine is_alloc ?_; refine al ?_) | (refine is_box ?_; refine bx ?_))
    refine go_call rfl rfl (c_Same _ _ _ _ w11 (by have := (nextP_len ly 0); omega) (((hp3.by.ext hx9).ext hx10).ext hx11) ((hp4.by.ext hx10).ext hx11)) ?_
    rintro r w12 ⟨rfl, hx12⟩
    have hx12' := hx11'.trans hx12
    rw [sameB_self]
    repeat (first | refine sp ?_ | (refine is_load ?_; refine ld ?_) | (refine is_store ?_; refine sr ?_) | (refine is_alloc ?_; refine al ?_) | (refine is_box ?_; refine bx ?_))
    exact go_ret1 rfl rfl ⟨_, rfl, rfl, hx12'⟩
  · repeat (first | refine sp ?_ | (refine is_load ?_; refine ld ?_) | (refine is_store ?_; refine sr ?_) | (refine is_alloc ?_; refine al ?_) | (refine is_box ?_; refine bx ?_))
    refine go_p rfl (pr_sl (lo := 0) (hi := k) (by decide) rfl rfl ⟨_, _, rfl, rfl⟩ (by omega) (by omega)) ?_
    obtain ⟨w5, hw5⟩ : ∃ w5, w4 = w5 := ⟨_, rfl⟩
    have hx5' := hx4'
    have hy5 := hcutk.ext hx4
    have hl5 : f1.length ≤ 2000 := by omega
    rw [hw5] at hx5' hy5 ⊢
    generalize f1 = ly at *
    repeat (first | refine sp ?_ | (refine is_load ?_; refine ld ?_) | (refine is_store ?_; refine sr ?_) | (refine is_alloc ?_; refine al ?_) | (refine is_box ?_; refine bx ?_))
    refine go_call rfl rfl (c_Next _ l a w5 (by omega) (hb.ext hx5') ha) ?_
    rintro r w6 ⟨p1, rfl, hp1, hx6⟩
    have hx6' := hx5'.trans hx6
    repeat (first | refine sp ?_ | (refine is_load ?_; refine ld ?_) | (refine is_store ?_; refine sr ?_) | (refine is_alloc ?_; refine al ?_) | (refine is_box ?_; refine bx ?_))
    refine go_call rfl rfl (c_refNext _ l a w6 (by omega) (hb.ext hx6') ha) ?_
    rintro r w7 ⟨p2, rfl, hp2, hx7⟩
    have hx7' := hx6'.trans hx7
    have hpl := nextP_len l a
    generalize nextP l a = q1 at *
    repeat (first | refine sp ?_ | (refine is_load ?_; refine ld ?_) | (refine is_store ?_; refine sr ?_) | (refine is_alloc ?_; refine al ?_) | (refine is_box ?_; refine bx ?_))
    refine go_call rfl rfl (c_Next _ ly 0 w7 (by omega) ((hy5.ext hx6).ext hx7) (by omega)) ?_
    rintro r w8 ⟨p3, rfl, hp3, hx8⟩
    have hx8' := hx7'.trans hx8
    repeat (first | refine sp ?_ | (refine is_load ?_; refine ld ?_) | (refine is_store ?_; refine sr ?_) | (refine is_alloc ?_; refine al ?_) | (refine is_box ?_; refine bx ?_))
    refine go_call rfl rfl (c_refNext _ ly 0 w8 (by omega) (((hy5.ext hx6).ext hx7).ext hx8) (by omega)) ?_
    rintro r w9 ⟨p4, rfl, hp4, hx9⟩
    have hx9' := hx8'.trans hx9
    repeat (first | refine sp ?_ | (refine is_load ?_; refine ld ?_) | (refine is_store ?_; refine sr ?_) | (refine is_alloc ?_; refine al ?_) | (refine is_box ?_; refine bx ?_))
    refine go_call rfl rfl (c_awake w9) ?_
    rintro r w10 ⟨rfl, hx10⟩
    have hx10' := hx9'.trans hx10
    repeat (first | refine sp ?_ | (refine is_load ?_; refine ld ?_) | (refine is_store ?_; refine sr ?_) | (refine is_alloc ?_; refine al ?_) | (refine is_box ?_; refine bx ?_))
    refine go_call rfl rfl (c_Same _ _ _ _ w10 (by omega) (((((hp1.by.ext hx7).ext hx8).ext hx9).ext hx10)) (((hp2.by.ext hx8).ext hx9).ext hx10)) ?_
    rintro r w11 ⟨rfl, hx11⟩
    have hx11' := hx10'.trans hx11
    rw [sameB_self]
    repeat (first | refine sp ?_ | (refine is_load ?_; refine ld ?_) | (refine is_store ?_; refine sr ?_) | (refine is_alloc ?_; refine al ?_) | (refine is_box ?_; refine bx ?_))
    refine go_call rfl rfl (c_Same _ _ _ _ w11 (by have := (nextP_len ly 0); omega) (((hp3.by.ext hx9).ext hx10).ext hx11) ((hp4.by.ext hx10).ext hx11)) ?_
    rintro r w12 ⟨rfl, hx12⟩
    have hx12' := hx11'.trans hx12
    rw [sameB_self]
    repeat (first | refine sp ?_ | (refine is_load ?_; refine ld ?_) | (refine is_store ?_; refine sr ?_) | (refine is_alloc ?_; refine al ?_) | (refine is_box ?_; refine bx ?_))
    exact go_ret1 rfl rfl ⟨_, rfl, rfl, hx12'⟩

set_option maxHeartbeats 1000000 in
theorem c_LawLimit (n : Int) (c : BitVec 8) (w : World) (hn : -9223372036854775808 ≤ n ∧ n ≤ 9223372036854775807) :
    Calls Try.prog 8 [.int .i64 n, u8 c].toArray w (Ret fun r w' => r = .bool true ∧ Ext w w') := by
  have hk1 := Int.emod_nonneg n (show (5 : Int) ≠ 0 by omega)
  have hk2 := Int.emod_lt_of_pos n (show 0 < (5 : Int) by omega)
  refine calls_go Try.func8 rfl Try.ntmps8 (Nat.le_of_ble_eq_true rfl) ?_
  repeat (first | refine sp ?_ | (refine is_load ?_; refine ld ?_) | (refine is_store ?_; refine sr ?_) | (refine is_alloc ?_; refine al ?_) | (refine is_box ?_; refine bx ?_))
  refine go_call rfl rfl (c_Mod n 5 w hn (by omega)) ?_
  rintro r w1 ⟨rfl, rfl⟩
  obtain ⟨k, hk⟩ : ∃ k : Nat, n % 5 = k := ⟨(n % 5).toNat, by omega⟩
  rw [hk] at hk1 hk2 ⊢
  repeat (first | refine sp ?_ | (refine is_load ?_; refine ld ?_) | (refine is_store ?_; refine sr ?_) | (refine is_alloc ?_; refine al ?_) | (refine is_box ?_; refine bx ?_))
  refine go_makeN (c := 1048574 + k) rfl rfl rfl (by omega) (by omega) (by omega) (by unfold maxLen; omega) rfl ?_
  refine go_p rfl (pr_basic0 rfl) ?_
  repeat (first | refine sp ?_ | (refine is_load ?_; refine ld ?_) | (refine is_store ?_; refine sr ?_) | (refine is_alloc ?_; refine al ?_) | (refine is_box ?_; refine bx ?_))
  refine go_loop (G := Nat × List (BitVec 8)) [7] (fun g => [.int .i64 (g.1 : Int)]) [(1, u8 c), (5, .int .i64 (1048574 + (k : Int))), (6, .slice (some ⟨w1.heap.size, 0, none⟩) (1048574 + k) (1048574 + k))]
    (fun g w' => g.1 ≤ 4 ∧ g.2.length = 1048574 + k ∧ (∀ j, j < g.1 → g.2[j]? = some c) ∧ At w' w1.heap.size (g.2.map u8) 5 ∧ Ext w1 w') (fun g => 4 - g.1)
    (0, List.replicate (1048574 + k) 0#8) rfl ⟨rfl, rfl, rfl, trivial⟩ ⟨by omega, List.length_replicate, fun j hj => by omega, ?_, ?_⟩ ?_
  · rw [List.map_replicate]
    exact At.new _ _ _
  · (repeat (first | exact Fr.refl _ _ | assumption | apply Fr.drewN | apply Fr.alloc | (refine Fr.setRow ?_ _ (by first | exact Or.inr (by (first | omega | (simp; done) | (simp; omega))) | (exact Or.inl (by first | assumption | (simp; done)))))))
  rintro ⟨i, L⟩ w2 ⟨hi, hL, hc, ha, hx⟩
  simp only at hi hL hc ha
  by_cases hlt : i < 4
  · repeat (first | refine sp ?_ | (refine is_load ?_; refine ld ?_) | (refine is_store ?_; refine sr ?_) | (refine is_alloc ?_; refine al ?_) | (refine is_box ?_; refine bx ?_))
    rw [Nat.zero_add]
    have e : (L.map u8).set i (u8 c) = (L.set i c).map u8 := by rw [List.map_set]
    rw [e]
    refine go_stop (G := Nat × List (BitVec 8)) (i+1, L.set i c) rfl ⟨rfl, rfl, rfl, trivial⟩ ⟨hlt, by rw [List.length_set]; exact hL, ?_, ha.setRow _, hx.setRow _ (Or.inr (Nat.le_refl _))⟩ (by show 4 - (i+1) < 4 - i; omega)
    intro j hj
    show (L.set i c)[j]? = some c
    by_cases e : i = j
    · subst e; rw [List.getElem?_set_self (by omega)]
    · rw [List.getElem?_set_ne e]; exact hc j (by dsimp only at hj; omega)
  obtain rfl : i = 4 := by omega
  have hbp : By w2 (.slice (some ⟨w1.heap.size, 0, none⟩) (1048574 + k) (1048574 + k)) L := by
    refine ⟨_, _, by rw [hL], by omega, fun j q hj => ⟨_, _, rfl, ?_⟩⟩
    have := ha.cell (i := j) (v := q) hj
    simpa using this
  by_cases hbig : 2 < k
  · repeat (first | refine sp ?_ | (refine is_load ?_; refine ld ?_) | (refine is_store ?_; refine sr ?_) | (refine is_alloc ?_; refine al ?_) | (refine is_box ?_; refine bx ?_))
    refine go_call rfl rfl (c_AppendBig _ _ [] L w2 (by omega) (by omega) hbp) ?_
    rintro r w3 ⟨rfl, rfl⟩
    repeat (first | refine sp ?_ | (refine is_load ?_; refine ld ?_) | (refine is_store ?_; refine sr ?_) | (refine is_alloc ?_; refine al ?_) | (refine is_box ?_; refine bx ?_))
    refine go_call rfl rfl (c_awake w3) ?_
    rintro r w4 ⟨rfl, hx4⟩
    repeat (first | refine sp ?_ | (refine is_load ?_; refine ld ?_) | (refine is_store ?_; refine sr ?_) | (refine is_alloc ?_; refine al ?_) | (refine is_box ?_; refine bx ?_))
    exact go_ret1 rfl rfl ⟨_, rfl, rfl, hx.trans hx4⟩
  have hfl := frame_len L
  repeat (first | refine sp ?_ | (refine is_load ?_; refine ld ?_) | (refine is_store ?_; refine sr ?_) | (refine is_alloc ?_; refine al ?_) | (refine is_box ?_; refine bx ?_))
  refine go_call rfl rfl (c_Append _ _ [] L w2 (by simp) (by omega) (By.nil _) hbp) ?_
  rintro r w3 ⟨x, rfl, hox, hx3⟩
  rw [List.nil_append] at hox
  have hx3' := hx.trans hx3
  have hoxb := hox.by
  obtain ⟨sx, cx, rfl, hcx, hrx⟩ := hox.by
  repeat (first | refine sp ?_ | (refine is_load ?_; refine ld ?_) | (refine is_store ?_; refine sr ?_) | (refine is_alloc ?_; refine al ?_) | (refine is_box ?_; refine bx ?_))
  refine go_call rfl rfl (c_Next _ (frame L) 0 w3 (by omega) hoxb (by omega)) ?_
  have hnx : nextP (frame L) 0 = (L, (frame L).length, 0) := by
    have := nextP_frame [] [] L (by omega)
    simpa using this
  rw [hnx]
  rintro r w4 ⟨q, rfl, hoq, hx4⟩
  have hx4' := hx3'.trans hx4
  simp only at hoq ⊢
  obtain ⟨sq, cq, rfl, hcq, hrq⟩ := hoq.by
  repeat (first | refine sp ?_ | (refine is_load ?_; refine ld ?_) | (refine is_store ?_; refine sr ?_) | (refine is_alloc ?_; refine al ?_) | (refine is_box ?_; refine bx ?_))
  refine go_call rfl rfl (c_awake w4) ?_
  rintro r w5 ⟨rfl, hx5⟩
  have hq3 := (hrq.ext hx5).get (j := 3) (by omega)
  have h3 : L[3]'(by omega) = c := by
    have := hc 3 (by omega)
    rw [List.getElem?_eq_getElem (by omega)] at this
    simpa using this
  rw [h3] at hq3
  obtain ⟨b3, o3, rfl, hcell⟩ := hq3
  repeat (first | refine sp ?_ | (refine is_load ?_; refine ld ?_) | (refine is_store ?_; refine sr ?_) | (refine is_alloc ?_; refine al ?_) | (refine is_box ?_; refine bx ?_))
  exact go_ret1 rfl rfl ⟨_, rfl, rfl, hx4'.trans hx5⟩
end Go.Proofs.Ytfgkleggbcpinaa
