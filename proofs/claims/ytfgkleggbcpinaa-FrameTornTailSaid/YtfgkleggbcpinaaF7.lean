/-
  The laws on checksums: their walks.
-/
import Derived.Test.YtfgkleggbcpinaaF6
set_option linter.unusedVariables false
namespace Go.Proofs.Ytfgkleggbcpinaa
open Go.Vc

theorem c_LawAgrees (v : Value) (l : List (BitVec 8)) (c : BitVec 32) (w : World) (hl : l.length ≤ 9223372036854775807) (hv : By w v l) :
    Calls Try.prog 3 [v, u32 c].toArray w (Ret fun r w' => r = .bool true ∧ Ext w w') := by
  have hb := hv
  obtain ⟨sa, cap, rfl, hcap, hr⟩ := hv
  refine calls_go Try.func3 rfl Try.ntmps3 (Nat.le_of_ble_eq_true rfl) ?_
  by_cases h6 : 600 < l.length
  · repeat (first | refine sp ?_ | (refine is_load ?_; refine ld ?_) | (refine is_store ?_; refine sr ?_) | (refine is_alloc ?_; refine al ?_) | (refine is_box ?_; refine bx ?_))
    refine go_call rfl rfl (c_awake w) ?_
    rintro r w1 ⟨rfl, hx⟩
    repeat (first | refine sp ?_ | (refine is_load ?_; refine ld ?_) | (refine is_store ?_; refine sr ?_) | (refine is_alloc ?_; refine al ?_) | (refine is_box ?_; refine bx ?_))
    exact go_ret1 rfl rfl ⟨_, rfl, rfl, hx⟩
  · repeat (first | refine sp ?_ | (refine is_load ?_; refine ld ?_) | (refine is_store ?_; refine sr ?_) | (refine is_alloc ?_; refine al ?_) | (refine is_box ?_; refine bx ?_))
    refine go_call rfl rfl (c_awake w) ?_
    rintro r w1 ⟨rfl, hx⟩
    repeat (first | refine sp ?_ | (refine is_load ?_; refine ld ?_) | (refine is_store ?_; refine sr ?_) | (refine is_alloc ?_; refine al ?_) | (refine is_box ?_; refine bx ?_))
    refine go_call rfl rfl (c_Checksum _ l w1 hl (hb.ext hx)) ?_
    rintro r w2 ⟨rfl, hx2⟩
    repeat (first | refine sp ?_ | (refine is_load ?_; refine ld ?_) | (refine is_store ?_; refine sr ?_) | (refine is_alloc ?_; refine al ?_) | (refine is_box ?_; refine bx ?_))
    refine go_call rfl rfl (c_refChecksum _ l w2 hl ((hb.ext hx).ext hx2)) ?_
    rintro r w3 ⟨rfl, rfl⟩
    rw [ext_eq]
    repeat (first | refine sp ?_ | (refine is_load ?_; refine ld ?_) | (refine is_store ?_; refine sr ?_) | (refine is_alloc ?_; refine al ?_) | (refine is_box ?_; refine bx ?_))
    refine go_call rfl rfl (c_Extend c _ l w3 hl ((hb.ext hx).ext hx2)) ?_
    rintro r w4 ⟨rfl, hx4⟩
    repeat (first | refine sp ?_ | (refine is_load ?_; refine ld ?_) | (refine is_store ?_; refine sr ?_) | (refine is_alloc ?_; refine al ?_) | (refine is_box ?_; refine bx ?_))
    refine go_call rfl rfl (c_refExtend c _ l w4 hl (((hb.ext hx).ext hx2).ext hx4)) ?_
    rintro r w5 ⟨rfl, rfl⟩
    rw [ext_eq]
    repeat (first | refine sp ?_ | (refine is_load ?_; refine ld ?_) | (refine is_store ?_; refine sr ?_) | (refine is_alloc ?_; refine al ?_) | (refine is_box ?_; refine bx ?_))
    exact go_ret1 rfl rfl ⟨_, rfl, rfl, (hx.trans hx2).trans hx4⟩

theorem c_LawExtends (v u : Value) (l m : List (BitVec 8)) (w : World) (hl : l.length ≤ 9223372036854775807) (hm : m.length ≤ 9223372036854775807) (hv : By w v l) (hu : By w u m) :
    Calls Try.prog 4 [v, u].toArray w (Ret fun r w' => r = .bool true ∧ Ext w w') := by
  have hb := hv
  have hb2 := hu
  obtain ⟨sa, cap, rfl, hcap, hr⟩ := hv
  obtain ⟨sb, cbp, rfl, hcbp, hs⟩ := hu
  refine calls_go Try.func4 rfl Try.ntmps4 (Nat.le_of_ble_eq_true rfl) ?_
  by_cases h6 : 600 < l.length
  · repeat (first | refine sp ?_ | (refine is_load ?_; refine ld ?_) | (refine is_store ?_; refine sr ?_) | (refine is_alloc ?_; refine al ?_) | (refine is_box ?_; refine bx ?_))
    refine go_call rfl rfl (c_awake w) ?_
    rintro r w1 ⟨rfl, hx⟩
    repeat (first | refine sp ?_ | (refine is_load ?_; refine ld ?_) | (refine is_store ?_; refine sr ?_) | (refine is_alloc ?_; refine al ?_) | (refine is_box ?_; refine bx ?_))
    exact go_ret1 rfl rfl ⟨_, rfl, rfl, hx⟩
  by_cases h7 : 600 < m.length
  · repeat (first | refine sp ?_ | (refine is_load ?_; refine ld ?_) | (refine is_store ?_; refine sr ?_) | (refine is_alloc ?_; refine al ?_) | (refine is_box ?_; refine bx ?_))
    refine go_call rfl rfl (c_awake w) ?_
    rintro r w1 ⟨rfl, hx⟩
    repeat (first | refine sp ?_ | (refine is_load ?_; refine ld ?_) | (refine is_store ?_; refine sr ?_) | (refine is_alloc ?_; refine al ?_) | (refine is_box ?_; refine bx ?_))
    exact go_ret1 rfl rfl ⟨_, rfl, rfl, hx⟩
  · repeat (first | refine sp ?_ | (refine is_load ?_; refine ld ?_) | (refine is_store ?_; refine sr ?_) | (refine is_alloc ?_; refine al ?_) | (refine is_box ?_; refine bx ?_))
    refine go_call rfl rfl (c_awake w) ?_
    rintro r w1 ⟨rfl, hx⟩
    repeat (first | refine sp ?_ | (refine is_load ?_; refine ld ?_) | (refine is_store ?_; refine sr ?_) | (refine is_alloc ?_; refine al ?_) | (refine is_box ?_; refine bx ?_))
    refine go_call rfl rfl (c_Checksum _ l w1 hl (hb.ext hx)) ?_
    rintro r w2 ⟨rfl, hx2⟩
    have hx2' := hx.trans hx2
    repeat (first | refine sp ?_ | (refine is_load ?_; refine ld ?_) | (refine is_store ?_; refine sr ?_) | (refine is_alloc ?_; refine al ?_) | (refine is_box ?_; refine bx ?_))
    refine go_call rfl rfl (c_Extend _ _ m w2 hm (hb2.ext hx2')) ?_
    rintro r w3 ⟨rfl, hx3⟩
    have hx3' := hx2'.trans hx3
    repeat (first | refine sp ?_ | (refine is_load ?_; refine ld ?_) | (refine is_store ?_; refine sr ?_) | (refine is_alloc ?_; refine al ?_) | (refine is_box ?_; refine bx ?_))
    refine go_call rfl rfl (c_Join _ _ l m w3 (by omega) (hb.ext hx3') (hb2.ext hx3')) ?_
    rintro r w4 ⟨ho, hx4⟩
    repeat (first | refine sp ?_ | (refine is_load ?_; refine ld ?_) | (refine is_store ?_; refine sr ?_) | (refine is_alloc ?_; refine al ?_) | (refine is_box ?_; refine bx ?_))
    refine go_call rfl rfl (c_Checksum _ (l ++ m) w4 (by simp; omega) ho.by) ?_
    rintro r w5 ⟨rfl, hx5⟩
    rw [extP_append]
    repeat (first | refine sp ?_ | (refine is_load ?_; refine ld ?_) | (refine is_store ?_; refine sr ?_) | (refine is_alloc ?_; refine al ?_) | (refine is_box ?_; refine bx ?_))
    exact go_ret1 rfl rfl ⟨_, rfl, rfl, (hx3'.trans hx4).trans hx5⟩

end Go.Proofs.Ytfgkleggbcpinaa
