/-
  The reference's reader of frames.
-/
import Derived.Test.YtfgkleggbcpinaaF15
set_option linter.unusedVariables false
namespace Go.Proofs.Ytfgkleggbcpinaa
open Go.Vc

def sumN (l : List (BitVec 8)) : Nat := l.foldl (fun s x => 256 * s + x.toNat) 0
theorem sumN_snoc (l : List (BitVec 8)) (x : BitVec 8) : sumN (l ++ [x]) = 256 * sumN l + x.toNat := by simp [sumN]
theorem sumN_word4 (c : BitVec 32) : sumN (word4 c) = c.toNat := by
  have h := c.isLt
  simp only [sumN, word4, List.foldl_cons, List.foldl_nil, BitVec.toNat_setWidth, BitVec.toNat_ushiftRight, Nat.shiftRight_eq_div_pow]
  omega
theorem word4_of {c : BitVec 32} {x0 x1 x2 x3 : BitVec 8} (h : sumN [x0, x1, x2, x3] = c.toNat) : word4 c = [x0, x1, x2, x3] := by
  have e : ∀ (n : Nat) (x : BitVec 8), n % 256 = x.toNat → BitVec.ofNat 8 n = x := fun n x h => BitVec.eq_of_toNat_eq (by rw [BitVec.toNat_ofNat]; exact h)
  have h0 := x0.isLt
  have h1 := x1.isLt
  have h2 := x2.isLt
  have h3 := x3.isLt
  rw [← word4_eq, ← h]
  simp only [sumN, List.foldl_cons, List.foldl_nil, wordN, List.nil_append, List.cons_append]
  congr 1
  · exact e _ _ (by omega)
  congr 1
  · exact e _ _ (by omega)
  congr 1
  · exact e _ _ (by omega)
  congr 1
  · exact e _ _ (by omega)

set_option maxHeartbeats 1000000 in
theorem c_refNext (v : Value) (l : List (BitVec 8)) (a : Int) (w : World) (hl : l.length ≤ 70368744177664) (hv : By w v l) (ha : -9223372036854775808 ≤ a ∧ a ≤ 9223372036854775807) :
    Calls Try.prog 23 [v, .int .i64 a].toArray w (Ret fun r w' => ∃ x, r = .tuple #[x, .int .i64 ((nextP l a).2.1 : Int), .int .i64 ((nextP l a).2.2 : Int)] ∧ OwnB w' w.heap.size x (nextP l a).1 ∧ Ext w w') := by
  have hb := hv
  obtain ⟨sa, cap, rfl, hcap, hr⟩ := hv
  have hbd := @uvRes_bd l a
  refine calls_go Try.func23 rfl Try.ntmps23 (Nat.le_of_ble_eq_true rfl) ?_
  repeat (first | refine sp ?_ | (refine is_load ?_; refine ld ?_) | (refine is_store ?_; refine sr ?_) | (refine is_alloc ?_; refine al ?_) | (refine is_box ?_; refine bx ?_))
  refine go_call rfl rfl (c_refUvarint _ l a w (by omega) hb ha) ?_
  rintro r w1 ⟨rfl, rfl⟩
  generalize hq : uvRes l a = q at *
  obtain ⟨n, bg, er⟩ := q
  simp only at hbd
  rw [show uvVal (n, bg, er) = .tuple #[.int .u64 (n : Int), .int .i64 (bg : Int), .int .i64 (er : Int)] from rfl]
  by_cases he : er ≠ 0
  · have e : nextP l a = ([], 0, er) := by unfold nextP; rw [hq, if_pos he]
    rw [e]
    repeat (first | refine sp ?_ | (refine is_load ?_; refine ld ?_) | (refine is_store ?_; refine sr ?_) | (refine is_alloc ?_; refine al ?_) | (refine is_box ?_; refine bx ?_))
    exact go_ret3 rfl rfl rfl rfl ⟨_, rfl, _, rfl, OwnB.nil _ _, Fr.refl _ _⟩
  obtain rfl : er = 0 := by omega
  obtain ⟨h0, hb1, hb2⟩ := hbd.1 rfl
  by_cases hn : 1048576 < n
  · have e : nextP l a = ([], 0, 13) := by unfold nextP; rw [hq, if_neg (by simp), if_pos hn]
    rw [e]
    repeat (first | refine sp ?_ | (refine is_load ?_; refine ld ?_) | (refine is_store ?_; refine sr ?_) | (refine is_alloc ?_; refine al ?_) | (refine is_box ?_; refine bx ?_))
    exact go_ret3 rfl rfl rfl rfl ⟨_, rfl, _, rfl, OwnB.nil _ _, Fr.refl _ _⟩
  by_cases ht : l.length < bg + n + 4
  · have e : nextP l a = ([], 0, 12) := by unfold nextP; rw [hq, if_neg (by simp), if_neg hn, if_pos ht]
    rw [e]
    repeat (first | refine sp ?_ | (refine is_load ?_; refine ld ?_) | (refine is_store ?_; refine sr ?_) | (refine is_alloc ?_; refine al ?_) | (refine is_box ?_; refine bx ?_))
    exact go_ret3 rfl rfl rfl rfl ⟨_, rfl, _, rfl, OwnB.nil _ _, Fr.refl _ _⟩
  obtain ⟨p, rfl⟩ : ∃ p : Nat, a = p := ⟨a.toNat, by omega⟩
  rw [Int.toNat_natCast] at hb1
  have hcut := byCut (lo := p) (hi := bg + n) hr (by omega) (by omega) hcap
  have hcut3 := byCut (lo := bg) (hi := bg + n) hr (by omega) (by omega) hcap
  have hln : ((l.take (bg + n + 4)).drop (bg + n)).length = 4 := by simp; omega
  have hl3 : ((l.take (bg + n)).drop bg).length = n := by simp; omega
  have hl1 : ((l.take (bg + n)).drop p).length ≤ l.length := by simp; omega
  have e : nextP l (p : Int) = if word4 (extP 0#32 ((l.take (bg + n)).drop p)) ≠ (l.take (bg + n + 4)).drop (bg + n) then ([], 0, 14) else ((l.take (bg + n)).drop bg, bg + n + 4, 0) := by
    unfold nextP; rw [hq]; simp only [Int.toNat_natCast]; rw [if_neg (by simp), if_neg hn, if_neg ht]
  rw [e]
  have hget : ∀ i (_ : i < 4) (h : bg + n + i < l.length), ((l.take (bg + n + 4)).drop (bg + n))[i]? = some l[bg + n + i] := fun i hi h => by
    simp [hi, h]
  generalize (l.take (bg + n + 4)).drop (bg + n) = s4 at *
  generalize (l.take (bg + n)).drop bg = pay at *
  have hsum : ∀ i (_ : i < 4) (h : bg + n + i < l.length), sumN (s4.take (i+1)) = 256 * sumN (s4.take i) + l[bg + n + i].toNat := fun i hi h => by
    have := hget i hi h
    rw [List.take_add_one, this]; exact sumN_snoc _ _
  obtain ⟨x0, x1, x2, x3, rfl⟩ : ∃ x0 x1 x2 x3, s4 = [x0, x1, x2, x3] := by
    match s4, hln with
    | [x0, x1, x2, x3], _ => exact ⟨x0, x1, x2, x3, rfl⟩
  repeat (first | refine sp ?_ | (refine is_load ?_; refine ld ?_) | (refine is_store ?_; refine sr ?_) | (refine is_alloc ?_; refine al ?_) | (refine is_box ?_; refine bx ?_))
  refine go_loop (G := Nat) [12, 11] (fun i => [.int .i64 (i : Int), .int .u32 (sumN ([x0, x1, x2, x3].take i) : Int)]) [(0, .slice sa l.length cap), (1, .int .i64 p), (8, .int .i64 bg), (10, .int .i64 ((bg : Int) + (n : Int)))]
    (fun i w' => i ≤ 4 ∧ sumN ([x0, x1, x2, x3].take i) < 256 ^ i ∧ w' = w1) (fun i => 4 - i) 0 rfl ⟨rfl, rfl, rfl, rfl, trivial⟩ ⟨by omega, by simp [sumN], rfl⟩ ?_
  rintro i w2 ⟨hi, hs, rfl⟩
  by_cases hlt : i < 4
  · have h1 := hsum i hlt (by omega)
    obtain ⟨b, o, rfl, hc⟩ := hr.get (show bg + n + i < l.length by omega)
    generalize l[bg + n + i] = y at *
    have hy := y.isLt
    have h2 : 256 ^ (i + 1) = 256 ^ i * 256 := Nat.pow_succ 256 i
    have h3 : 256 ^ i ≤ 256 ^ 3 := Nat.pow_le_pow_right (by decide) (by omega)
    generalize sumN (List.take i [x0, x1, x2, x3]) = s at *
    repeat (first | refine sp ?_ | (refine is_load ?_; refine ld ?_) | (refine is_store ?_; refine sr ?_) | (refine is_alloc ?_; refine al ?_) | (refine is_box ?_; refine bx ?_))
    refine go_as 11 (u' := .int .u32 (sumN ([x0, x1, x2, x3].take (i+1)) : Int)) rfl (by rw [h1, Int.natCast_add, Int.natCast_mul]; rfl) ?_
    exact go_stop (G := Nat) (i+1) rfl ⟨rfl, rfl, rfl, rfl, trivial⟩ ⟨hlt, by rw [h1]; omega, rfl⟩ (by show 4 - (i+1) < 4 - i; omega)
  obtain rfl : i = 4 := by omega
  rw [show List.take 4 [x0, x1, x2, x3] = [x0, x1, x2, x3] from rfl] at hs ⊢
  repeat (first | refine sp ?_ | (refine is_load ?_; refine ld ?_) | (refine is_store ?_; refine sr ?_) | (refine is_alloc ?_; refine al ?_) | (refine is_box ?_; refine bx ?_))
  refine go_p rfl (pr_sl (lo := p) (hi := bg + n) (by decide) rfl ⟨_, _, rfl, rfl⟩ ⟨_, _, rfl, by simp⟩ (by omega) (by omega)) ?_
  refine go_call rfl rfl (c_refChecksum _ _ w2 (by omega) hcut) ?_
  rintro r w3 ⟨rfl, rfl⟩
  rw [← ext_eq]
  generalize extP 0#32 ((l.take (bg + n)).drop p) = c at *
  by_cases q : sumN [x0, x1, x2, x3] = c.toNat
  · rw [q]
    rw [if_neg (by simpa using word4_of q)]
    repeat (first | refine sp ?_ | (refine is_load ?_; refine ld ?_) | (refine is_store ?_; refine sr ?_) | (refine is_alloc ?_; refine al ?_) | (refine is_box ?_; refine bx ?_))
    refine go_p rfl (pr_sl (lo := bg) (hi := bg + n) (by decide) rfl ⟨_, _, rfl, rfl⟩ ⟨_, _, rfl, by simp⟩ (by omega) (by omega)) ?_
    refine go_call rfl rfl (c_Join _ _ [] pay w3 (by simp; omega) (By.nil _) hcut3) ?_
    rintro r w4 ⟨ho, hx⟩
    rw [List.nil_append] at ho
    repeat (first | refine sp ?_ | (refine is_load ?_; refine ld ?_) | (refine is_store ?_; refine sr ?_) | (refine is_alloc ?_; refine al ?_) | (refine is_box ?_; refine bx ?_))
    exact go_ret3 rfl rfl rfl rfl ⟨_, rfl, _, by push_cast; rfl, ho, hx⟩
  · rw [if_pos (fun e => q (by rw [← e, sumN_word4]))]
    repeat (first | refine sp ?_ | (refine is_load ?_; refine ld ?_) | (refine is_store ?_; refine sr ?_) | (refine is_alloc ?_; refine al ?_) | (refine is_box ?_; refine bx ?_))
    exact go_ret3 rfl rfl rfl rfl ⟨_, rfl, _, rfl, OwnB.nil _ _, Fr.refl _ _⟩
end Go.Proofs.Ytfgkleggbcpinaa
