/-
  The two readers of frames.
-/
import Derived.Test.YtfgkleggbcpinaaF14
set_option linter.unusedVariables false
namespace Go.Proofs.Ytfgkleggbcpinaa
open Go.Vc

set_option maxHeartbeats 1000000 in
theorem c_Next (v : Value) (l : List (BitVec 8)) (a : Int) (w : World) (hl : l.length ≤ 70368744177664) (hv : By w v l) (ha : -9223372036854775808 ≤ a ∧ a ≤ 9223372036854775807) :
    Calls Try.prog 22 [v, .int .i64 a].toArray w (Ret fun r w' => ∃ x, r = .tuple #[x, .int .i64 ((nextP l a).2.1 : Int), .int .i64 ((nextP l a).2.2 : Int)] ∧ OwnB w' w.heap.size x (nextP l a).1 ∧ Ext w w') := by
  have hb := hv
  obtain ⟨sa, cap, rfl, hcap, hr⟩ := hv
  have hbd := @uvRes_bd l a
  refine calls_go Try.func22 rfl Try.ntmps22 (Nat.le_of_ble_eq_true rfl) ?_
  repeat (first | refine sp ?_ | (refine is_load ?_; refine ld ?_) | (refine is_store ?_; refine sr ?_) | (refine is_alloc ?_; refine al ?_) | (refine is_box ?_; refine bx ?_))
  refine go_call rfl rfl (c_Uvarint _ l a w (by omega) hb ha) ?_
  rintro r w1 ⟨rfl, rfl⟩
  generalize hq : uvRes l a = q at *
  obtain ⟨n, bg, er⟩ := q
  simp only at hbd
  rw [show uvVal (n, bg, er) = .tuple #[.int .u64 (n : Int), .int .i64 (bg : Int), .int .i64 (er : Int)] from rfl]
  by_cases he : er ≠ 0
  · have e : nextP l a = ([], 0, er) := by unfold nextP; rw [hq, if_pos he]
    rw [e]
    repeat (first | refine sp ?_ | (refine is_load ?_; refine ld ?_) | (refine is_store ?_; refine sr ?_) | (refine is_alloc ?_; refine al ?_) | (refine is_box ?_; refine bx ?_))
    exact go_ret3 rfl rfl rfl rfl ⟨_, rfl, _, rfl, OwnB.nil _ _, Fr.refl _ _⟩
  obtain rfl : er = 0 := by omega
  obtain ⟨h0, hb1, hb2⟩ := hbd.1 rfl
  by_cases hn : 1048576 < n
  · have e : nextP l a = ([], 0, 13) := by unfold nextP; rw [hq, if_neg (by simp), if_pos hn]
    rw [e]
    repeat (first | refine sp ?_ | (refine is_load ?_; refine ld ?_) | (refine is_store ?_; refine sr ?_) | (refine is_alloc ?_; refine al ?_) | (refine is_box ?_; refine bx ?_))
    exact go_ret3 rfl rfl rfl rfl ⟨_, rfl, _, rfl, OwnB.nil _ _, Fr.refl _ _⟩
  by_cases ht : l.length < bg + n + 4
  · have e : nextP l a = ([], 0, 12) := by unfold nextP; rw [hq, if_neg (by simp), if_neg hn, if_pos ht]
    rw [e]
    repeat (first | refine sp ?_ | (refine is_load ?_; refine ld ?_) | (refine is_store ?_; refine sr ?_) | (refine is_alloc ?_; refine al ?_) | (refine is_box ?_; refine bx ?_))
    exact go_ret3 rfl rfl rfl rfl ⟨_, rfl, _, rfl, OwnB.nil _ _, Fr.refl _ _⟩
  obtain ⟨p, rfl⟩ : ∃ p : Nat, a = p := ⟨a.toNat, by omega⟩
  rw [Int.toNat_natCast] at hb1
  have hcut := byCut (lo := p) (hi := bg + n) hr (by omega) (by omega) hcap
  have hcut2 := byCut (lo := bg + n) (hi := bg + n + 4) hr (by omega) (by omega) hcap
  have hcut3 := byCut (lo := bg) (hi := bg + n) hr (by omega) (by omega) hcap
  have hln : ((l.take (bg + n + 4)).drop (bg + n)).length = 4 := by simp; omega
  have hl3 : ((l.take (bg + n)).drop bg).length = n := by simp; omega
  have hl1 : ((l.take (bg + n)).drop p).length ≤ l.length := by simp; omega
  have e : nextP l (p : Int) = if word4 (extP 0#32 ((l.take (bg + n)).drop p)) ≠ (l.take (bg + n + 4)).drop (bg + n) then ([], 0, 14) else ((l.take (bg + n)).drop bg, bg + n + 4, 0) := by
    unfold nextP; rw [hq]; simp only [Int.toNat_natCast]; rw [if_neg (by simp), if_neg hn, if_neg ht]
  rw [e]
  generalize (l.take (bg + n + 4)).drop (bg + n) = s4 at *
  generalize (l.take (bg + n)).drop bg = pay at *
  obtain ⟨x0, x1, x2, x3, rfl⟩ : ∃ x0 x1 x2 x3, s4 = [x0, x1, x2, x3] := by
    match s4, hln with
    | [x0, x1, x2, x3], _ => exact ⟨x0, x1, x2, x3, rfl⟩
  repeat (first | refine sp ?_ | (refine is_load ?_; refine ld ?_) | (refine is_store ?_; refine sr ?_) | (refine is_alloc ?_; refine al ?_) | (refine is_box ?_; refine bx ?_))
  refine go_p rfl (pr_sl (lo := p) (hi := bg + n) (by decide) rfl ⟨_, _, rfl, rfl⟩ ⟨_, _, rfl, by simp⟩ (by omega) (by omega)) ?_
  refine go_call rfl rfl (c_Checksum _ _ w1 (by omega) hcut) ?_
  rintro r w2 ⟨rfl, hx2⟩
  generalize extP 0#32 ((l.take (bg + n)).drop p) = c at *
  repeat (first | refine sp ?_ | (refine is_load ?_; refine ld ?_) | (refine is_store ?_; refine sr ?_) | (refine is_alloc ?_; refine al ?_) | (refine is_box ?_; refine bx ?_))
  refine go_p rfl (pr_sl (lo := bg + n) (hi := bg + n + 4) (by decide) rfl ⟨_, _, rfl, by simp⟩ ⟨_, _, rfl, by simp⟩ (by omega) (by omega)) ?_
  obtain ⟨sb, cb, e4, hcb, hr4⟩ := hcut2.ext hx2
  simp only [Value.slice.injEq] at e4
  obtain ⟨e4, e5, _⟩ := e4
  rw [e4, e5]
  obtain ⟨b, o, rfl, hc0⟩ := hr4.get (j := 0) (by simp)
  obtain ⟨b', o', e', hc1⟩ := hr4.get (j := 1) (by simp)
  obtain ⟨rfl, rfl, _⟩ : b = b' ∧ o = o' ∧ True := by simpa using e'
  obtain ⟨b', o', e', hc2⟩ := hr4.get (j := 2) (by simp)
  obtain ⟨rfl, rfl, _⟩ : b = b' ∧ o = o' ∧ True := by simpa using e'
  obtain ⟨b', o', e', hc3⟩ := hr4.get (j := 3) (by simp)
  obtain ⟨rfl, rfl, _⟩ : b = b' ∧ o = o' ∧ True := by simpa using e'
  simp only [List.getElem_cons_zero, List.getElem_cons_succ] at hc0 hc1 hc2 hc3
  by_cases q : word4 c = [x0, x1, x2, x3]
  · have q' := q
    simp only [word4, List.cons.injEq, and_true] at q'
    obtain ⟨rfl, rfl, rfl, rfl⟩ := q'
    rw [if_neg (by simpa using q)]
    repeat (first | (refine is_xor ?_; first | refine go_p rfl (pr_xor32 rfl rfl) ?_ | refine go_p rfl (pr_xor8 rfl rfl) ?_ | refine go_p rfl (pr_xor32c 0x82F63B78#32 rfl rfl rfl) ?_) | (refine is_and ?_; refine go_p rfl (pr_and32c 1#32 rfl rfl rfl) ?_) | (refine is_not ?_; refine go_p rfl (pr_not32 rfl) ?_) | (refine is_shr ?_; first | refine go_p rfl (pr_shr32 (m := 1) rfl rfl rfl (by decide)) ?_ | refine go_p rfl (pr_shr32 (m := 8) rfl rfl rfl (by decide)) ?_ | refine go_p rfl (pr_shr32 (m := 16) rfl rfl rfl (by decide)) ?_ | refine go_p rfl (pr_shr32 (m := 24) rfl rfl rfl (by decide)) ?_) | (refine is_conv ?_; first | refine go_p rfl (pr_conv32_8 rfl) ?_ | refine go_p rfl (pr_conv8_32 rfl) ?_) | refine sp ?_ | (refine is_load ?_; refine ld ?_) | (refine is_store ?_; refine sr ?_) | (refine is_alloc ?_; refine al ?_) | (refine is_box ?_; refine bx ?_))
    refine go_p rfl (pr_sl (lo := bg) (hi := bg + n) (by decide) rfl ⟨_, _, rfl, rfl⟩ ⟨_, _, rfl, by simp⟩ (by omega) (by omega)) ?_
    refine go_appB (w0 := w1) (l := []) rfl rfl rfl hx2 (OwnB.nil _ _) (hcut3.ext hx2) (by simp; omega) ?_
    intro v7 w7 ho7 hx7
    rw [List.nil_append] at ho7
    repeat (first | refine sp ?_ | (refine is_load ?_; refine ld ?_) | (refine is_store ?_; refine sr ?_) | (refine is_alloc ?_; refine al ?_) | (refine is_box ?_; refine bx ?_))
    exact go_ret3 rfl rfl rfl rfl ⟨_, rfl, _, by push_cast; rfl, ho7, hx7⟩
  · rw [if_pos q]
    have q' : ¬ ((c >>> 24).setWidth 8 = x0 ∧ (c >>> 16).setWidth 8 = x1 ∧ (c >>> 8).setWidth 8 = x2 ∧ c.setWidth 8 = x3) := by
      rintro ⟨rfl, rfl, rfl, rfl⟩; exact q rfl
    have qi : ∀ a b : BitVec 8, a ≠ b → (b.toNat : Int) ≠ (a.toNat : Int) := fun a b h e => h (BitVec.eq_of_toNat_eq (by omega))
    by_cases q0 : (c >>> 24).setWidth 8 = x0
    · subst q0
      by_cases q1 : (c >>> 16).setWidth 8 = x1
      · subst q1
        by_cases q2 : (c >>> 8).setWidth 8 = x2
        · subst q2
          have q3 := qi _ _ (fun e => q' ⟨rfl, rfl, rfl, e⟩)
          repeat (first | (refine is_xor ?_; first | refine go_p rfl (pr_xor32 rfl rfl) ?_ | refine go_p rfl (pr_xor8 rfl rfl) ?_ | refine go_p rfl (pr_xor32c 0x82F63B78#32 rfl rfl rfl) ?_) | (refine is_and ?_; refine go_p rfl (pr_and32c 1#32 rfl rfl rfl) ?_) | (refine is_not ?_; refine go_p rfl (pr_not32 rfl) ?_) | (refine is_shr ?_; first | refine go_p rfl (pr_shr32 (m := 1) rfl rfl rfl (by decide)) ?_ | refine go_p rfl (pr_shr32 (m := 8) rfl rfl rfl (by decide)) ?_ | refine go_p rfl (pr_shr32 (m := 16) rfl rfl rfl (by decide)) ?_ | refine go_p rfl (pr_shr32 (m := 24) rfl rfl rfl (by decide)) ?_) | (refine is_conv ?_; first | refine go_p rfl (pr_conv32_8 rfl) ?_ | refine go_p rfl (pr_conv8_32 rfl) ?_) | refine sp ?_ | (refine is_load ?_; refine ld ?_) | (refine is_store ?_; refine sr ?_) | (refine is_alloc ?_; refine al ?_) | (refine is_box ?_; refine bx ?_))
          exact go_ret3 rfl rfl rfl rfl ⟨_, rfl, _, rfl, OwnB.nil _ _, hx2⟩
        · have q3 := qi _ _ q2
          repeat (first | (refine is_xor ?_; first | refine go_p rfl (pr_xor32 rfl rfl) ?_ | refine go_p rfl (pr_xor8 rfl rfl) ?_ | refine go_p rfl (pr_xor32c 0x82F63B78#32 rfl rfl rfl) ?_) | (refine is_and ?_; refine go_p rfl (pr_and32c 1#32 rfl rfl rfl) ?_) | (refine is_not ?_; refine go_p rfl (pr_not32 rfl) ?_) | (refine is_shr ?_; first | refine go_p rfl (pr_shr32 (m := 1) rfl rfl rfl (by decide)) ?_ | refine go_p rfl (pr_shr32 (m := 8) rfl rfl rfl (by decide)) ?_ | refine go_p rfl (pr_shr32 (m := 16) rfl rfl rfl (by decide)) ?_ | refine go_p rfl (pr_shr32 (m := 24) rfl rfl rfl (by decide)) ?_) | (refine is_conv ?_; first | refine go_p rfl (pr_conv32_8 rfl) ?_ | refine go_p rfl (pr_conv8_32 rfl) ?_) | refine sp ?_ | (refine is_load ?_; refine ld ?_) | (refine is_store ?_; refine sr ?_) | (refine is_alloc ?_; refine al ?_) | (refine is_box ?_; refine bx ?_))
          exact go_ret3 rfl rfl rfl rfl ⟨_, rfl, _, rfl, OwnB.nil _ _, hx2⟩
      · have q3 := qi _ _ q1
        repeat (first | (refine is_xor ?_; first | refine go_p rfl (pr_xor32 rfl rfl) ?_ | refine go_p rfl (pr_xor8 rfl rfl) ?_ | refine go_p rfl (pr_xor32c 0x82F63B78#32 rfl rfl rfl) ?_) | (refine is_and ?_; refine go_p rfl (pr_and32c 1#32 rfl rfl rfl) ?_) | (refine is_not ?_; refine go_p rfl (pr_not32 rfl) ?_) | (refine is_shr ?_; first | refine go_p rfl (pr_shr32 (m := 1) rfl rfl rfl (by decide)) ?_ | refine go_p rfl (pr_shr32 (m := 8) rfl rfl rfl (by decide)) ?_ | refine go_p rfl (pr_shr32 (m := 16) rfl rfl rfl (by decide)) ?_ | refine go_p rfl (pr_shr32 (m := 24) rfl rfl rfl (by decide)) ?_) | (refine is_conv ?_; first | refine go_p rfl (pr_conv32_8 rfl) ?_ | refine go_p rfl (pr_conv8_32 rfl) ?_) | refine sp ?_ | (refine is_load ?_; refine ld ?_) | (refine is_store ?_; refine sr ?_) | (refine is_alloc ?_; refine al ?_) | (refine is_box ?_; refine bx ?_))
        exact go_ret3 rfl rfl rfl rfl ⟨_, rfl, _, rfl, OwnB.nil _ _, hx2⟩
    · have q3 := qi _ _ q0
      repeat (first | (refine is_xor ?_; first | refine go_p rfl (pr_xor32 rfl rfl) ?_ | refine go_p rfl (pr_xor8 rfl rfl) ?_ | refine go_p rfl (pr_xor32c 0x82F63B78#32 rfl rfl rfl) ?_) | (refine is_and ?_; refine go_p rfl (pr_and32c 1#32 rfl rfl rfl) ?_) | (refine is_not ?_; refine go_p rfl (pr_not32 rfl) ?_) | (refine is_shr ?_; first | refine go_p rfl (pr_shr32 (m := 1) rfl rfl rfl (by decide)) ?_ | refine go_p rfl (pr_shr32 (m := 8) rfl rfl rfl (by decide)) ?_ | refine go_p rfl (pr_shr32 (m := 16) rfl rfl rfl (by decide)) ?_ | refine go_p rfl (pr_shr32 (m := 24) rfl rfl rfl (by decide)) ?_) | (refine is_conv ?_; first | refine go_p rfl (pr_conv32_8 rfl) ?_ | refine go_p rfl (pr_conv8_32 rfl) ?_) | refine sp ?_ | (refine is_load ?_; refine ld ?_) | (refine is_store ?_; refine sr ?_) | (refine is_alloc ?_; refine al ?_) | (refine is_box ?_; refine bx ?_))
      exact go_ret3 rfl rfl rfl rfl ⟨_, rfl, _, rfl, OwnB.nil _ _, hx2⟩
end Go.Proofs.Ytfgkleggbcpinaa
