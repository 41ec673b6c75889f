/-
  The reference's varints, words and frames; the law 'appends'.
-/
import Derived.Test.YtfgkleggbcpinaaF10
set_option linter.unusedVariables false
namespace Go.Proofs.Ytfgkleggbcpinaa
open Go.Vc

theorem c_refVarint (n : Nat) (w : World) (hn : n < 18446744073709551616) :
    Calls Try.prog 27 [.int .u64 (n : Int)].toArray w (Ret fun r w' => OwnB w' w.heap.size r (varint n) ∧ Ext w w') := by
  refine calls_go Try.func27 rfl Try.ntmps27 (Nat.le_of_ble_eq_true rfl) ?_
  repeat (first | refine sp ?_ | (refine is_load ?_; refine ld ?_) | (refine is_store ?_; refine sr ?_) | (refine is_alloc ?_; refine al ?_) | (refine is_box ?_; refine bx ?_))
  refine go_loop (G := Nat × Nat × List (BitVec 8) × Value) [0, 3] (fun ⟨_, m, _, v⟩ => [.int .u64 (m : Int), v]) []
    (fun g w' => g.1 ≤ 9 ∧ g.2.1 < 2 ^ (7 * g.1 + 1) ∧ varint n = g.2.2.1 ++ uvar g.1 g.2.1 ∧ g.2.2.1.length + g.1 ≤ 9 ∧ OwnB w' w.heap.size g.2.2.2 g.2.2.1 ∧ Ext w w') (fun g => g.1)
    (9, n, [], .slice none 0 0) rfl trivial ⟨by simp, by simpa using hn, rfl, by simp, OwnB.nil w _, Fr.refl _ _⟩ ?_
  rintro ⟨f, m, done, v2⟩ w3 ⟨hf, hm, hdone, hlen, ho2, hx2⟩
  simp only at hf hm hdone hlen ho2
  have hm64 : m < 18446744073709551616 := by
    have : 2 ^ (7 * f + 1) ≤ 2 ^ 64 := Nat.pow_le_pow_right (by decide) (by omega)
    omega
  by_cases hlt : 128 ≤ m
  · obtain ⟨f', rfl⟩ : ∃ f', f = f' + 1 := by
      cases f with
      | zero => simp at hm; omega
      | succ f' => exact ⟨f', rfl⟩
    repeat (first | refine sp ?_ | (refine is_load ?_; refine ld ?_) | (refine is_store ?_; refine sr ?_) | (refine is_alloc ?_; refine al ?_) | (refine is_box ?_; refine bx ?_))
    refine go_as 10 (u' := u8 (BitVec.ofNat 8 (m % 128 + 128))) rfl (by congr 1; simp; omega) ?_
    refine go_lit rfl rfl rfl (by decide) (by decide) rfl ?_
    refine go_pushB rfl rfl rfl rfl rfl hx2 ho2 (by omega) ?_
    intro v3 w4 ho3 hx3
    repeat (first | refine sp ?_ | (refine is_load ?_; refine ld ?_) | (refine is_store ?_; refine sr ?_) | (refine is_alloc ?_; refine al ?_) | (refine is_box ?_; refine bx ?_))
    refine go_as 0 (u' := .int .u64 ((m / 128 : Nat) : Int)) rfl (by congr 1) ?_
    refine go_stop (G := Nat × Nat × List (BitVec 8) × Value) (f', m / 128, done ++ [BitVec.ofNat 8 (m % 128 + 128)], v3) rfl trivial ⟨by show f' ≤ 9; omega, ?_, ?_, ?_, ho3, hx3⟩ (by show f' < f' + 1; omega)
    · show m / 2 ^ 7 < 2 ^ (7 * f' + 1)
      rw [Nat.div_lt_iff_lt_mul (by decide), ← Nat.pow_add]
      rw [show 7 * f' + 1 + 7 = 7 * (f' + 1) + 1 by omega]; exact hm
    · show varint n = _
      rw [hdone, uvar, if_neg (by omega)]; simp
    · simp; omega
  · have hu : uvar f m = [BitVec.ofNat 8 m] := by
      cases f with
      | zero => rfl
      | succ f' => rw [uvar, if_pos (by omega)]
    rw [hu] at hdone
    repeat (first | refine sp ?_ | (refine is_load ?_; refine ld ?_) | (refine is_store ?_; refine sr ?_) | (refine is_alloc ?_; refine al ?_) | (refine is_box ?_; refine bx ?_))
    refine go_as 17 (u' := u8 (BitVec.ofNat 8 m)) rfl (by congr 1; simp; omega) ?_
    refine go_lit rfl rfl rfl (by decide) (by decide) rfl ?_
    refine go_pushB rfl rfl rfl rfl rfl hx2 ho2 (by omega) ?_
    intro v3 w4 ho3 hx3
    repeat (first | refine sp ?_ | (refine is_load ?_; refine ld ?_) | (refine is_store ?_; refine sr ?_) | (refine is_alloc ?_; refine al ?_) | (refine is_box ?_; refine bx ?_))
    refine go_ret1 rfl rfl ⟨_, rfl, ?_, hx3⟩
    rw [hdone]; exact ho3

/-- The last 'n' bytes of 'u', the most significant one first. -/
def wordN : Nat → Nat → List (BitVec 8)
  | _, 0 => []
  | u, n+1 => wordN (u / 256) n ++ [BitVec.ofNat 8 u]
theorem wordN_len : ∀ n u, (wordN u n).length = n
  | 0, _ => rfl
  | n+1, u => by simp [wordN, wordN_len n]

theorem c_Word (u n : Nat) (w : World) (hu : u < 18446744073709551616) (hn : n ≤ 1048576) :
    Calls Try.prog 28 [.int .u64 (u : Int), .int .i64 (n : Int)].toArray w (Ret fun r w' => OwnB w' w.heap.size r (wordN u n) ∧ Ext w w') := by
  refine calls_go Try.func28 rfl Try.ntmps28 (Nat.le_of_ble_eq_true rfl) ?_
  repeat (first | refine sp ?_ | (refine is_load ?_; refine ld ?_) | (refine is_store ?_; refine sr ?_) | (refine is_alloc ?_; refine al ?_) | (refine is_box ?_; refine bx ?_))
  refine go_makeN (c := n) rfl rfl rfl rfl rfl (by omega) (by unfold maxLen; omega) rfl ?_
  repeat (first | refine sp ?_ | (refine is_load ?_; refine ld ?_) | (refine is_store ?_; refine sr ?_) | (refine is_alloc ?_; refine al ?_) | (refine is_box ?_; refine bx ?_))
  refine go_loop (G := Nat × Nat × List (BitVec 8)) [0, 6] (fun ⟨i, m, _⟩ => [.int .u64 (m : Int), .int .i64 ((i : Int) - 1)]) [(5, .slice (some ⟨w.heap.size, 0, none⟩) n n)]
    (fun g w' => g.1 + g.2.2.length = n ∧ g.2.1 < 18446744073709551616 ∧ wordN u n = wordN g.2.1 g.1 ++ g.2.2 ∧ At w' w.heap.size ((List.replicate g.1 0#8 ++ g.2.2).map u8) 5 ∧ Ext w w') (fun g => g.1)
    (n, u, []) rfl ⟨rfl, trivial⟩ ⟨by simp, hu, by simp, ?_, ?_⟩ ?_
  · have : (List.replicate n 0#8 ++ []).map u8 = List.replicate n (u8 0#8) := by simp
    show At _ _ ((List.replicate n 0#8 ++ []).map u8) _
    rw [this]
    exact At.new _ _ _
  · (repeat (first | exact Fr.refl _ _ | assumption | apply Fr.drewN | apply Fr.alloc | (refine Fr.setRow ?_ _ (by first | exact Or.inr (by (first | omega | (simp; done) | (simp; omega))) | (exact Or.inl (by first | assumption | (simp; done)))))))
  rintro ⟨i, m, tl⟩ w3 ⟨hi, hm, hdone, ha, hx⟩
  simp only at hi hm hdone ha
  cases i with
  | zero =>
    repeat (first | refine sp ?_ | (refine is_load ?_; refine ld ?_) | (refine is_store ?_; refine sr ?_) | (refine is_alloc ?_; refine al ?_) | (refine is_box ?_; refine bx ?_))
    refine go_ret1 rfl rfl ⟨_, rfl, ?_, hx⟩
    have e : wordN u n = tl := by rw [hdone]; rfl
    refine OwnB.of_block (by rw [wordN_len]) (Nat.le_refl _) (C := []) ?_ (by unfold maxLen; omega) (by rw [wordN_len]; simp)
    rw [e, List.append_nil]; simpa using ha
  | succ i =>
    repeat (first | refine sp ?_ | (refine is_load ?_; refine ld ?_) | (refine is_store ?_; refine sr ?_) | (refine is_alloc ?_; refine al ?_) | (refine is_box ?_; refine bx ?_))
    refine go_as 19 (u' := u8 (BitVec.ofNat 8 m)) rfl (by congr 1) ?_
    refine go_p rfl (pr_index1 (j := i) rfl rfl (by omega) (by omega)) ?_
    refine go_store rfl rfl (st_at ha (by simp; omega) rfl) ?_
    have hset : ((List.replicate (i+1) 0#8 ++ tl).map u8).set (0 + i) (u8 (BitVec.ofNat 8 m)) = (List.replicate i 0#8 ++ (BitVec.ofNat 8 m :: tl)).map u8 := by
      rw [Nat.zero_add, List.replicate_succ', List.append_assoc, List.map_append, List.map_append, List.set_append_right _ _ (by simp)]
      simp
    rw [hset]
    repeat (first | refine sp ?_ | (refine is_load ?_; refine ld ?_) | (refine is_store ?_; refine sr ?_) | (refine is_alloc ?_; refine al ?_) | (refine is_box ?_; refine bx ?_))
    refine go_as 0 (u' := .int .u64 ((m / 256 : Nat) : Int)) rfl (by congr 1) ?_
    refine go_as 6 (u' := .int .i64 ((i : Int) - 1)) rfl (by congr 1; omega) ?_
    refine go_stop (G := Nat × Nat × List (BitVec 8)) (i, m / 256, BitVec.ofNat 8 m :: tl) rfl ⟨rfl, trivial⟩ ⟨?_, ?_, ?_, ?_, ?_⟩ (by show i < i + 1; omega)
    · simp; omega
    · show m / 256 < _; omega
    · show wordN u n = _; rw [hdone, wordN]; simp
    · exact ha.setRow _
    · exact hx.setRow _ (Or.inr (Nat.le_refl _))

theorem word4_eq (c : BitVec 32) : wordN c.toNat 4 = word4 c := by
  have h := c.isLt
  simp only [wordN, word4, List.nil_append, List.cons_append]
  have e : ∀ k, BitVec.ofNat 8 (c.toNat / 2 ^ k) = (c >>> k).setWidth 8 := by
    intro k
    apply BitVec.eq_of_toNat_eq
    rw [BitVec.toNat_ofNat, BitVec.toNat_setWidth, BitVec.toNat_ushiftRight, Nat.shiftRight_eq_div_pow]
  have e0 : BitVec.ofNat 8 c.toNat = c.setWidth 8 := by
    apply BitVec.eq_of_toNat_eq
    rw [BitVec.toNat_ofNat, BitVec.toNat_setWidth]
  rw [← e 24, ← e 16, ← e 8, e0, show c.toNat / 256 / 256 / 256 = c.toNat / 2 ^ 24 by omega, show c.toNat / 256 / 256 = c.toNat / 2 ^ 16 by omega]

theorem frame_len (m : List (BitVec 8)) : (frame m).length ≤ m.length + 14 ∧ m.length + 4 ≤ (frame m).length := by
  have := varint_len m.length
  simp [frame, head, word4]; omega

theorem c_refFrame (u : Value) (m : List (BitVec 8)) (w : World) (hm : m.length ≤ 1048576) (hu : By w u m) :
    Calls Try.prog 21 [u].toArray w (Ret fun r w' => OwnB w' w.heap.size r (frame m) ∧ Ext w w') := by
  have hb := hu
  obtain ⟨sb, cbp, rfl, hcbp, hs⟩ := hu
  have hvl := varint_len m.length
  have hhl : (head m).length = (varint m.length).length + m.length := by simp [head]
  refine calls_go Try.func21 rfl Try.ntmps21 (Nat.le_of_ble_eq_true rfl) ?_
  repeat (first | refine sp ?_ | (refine is_load ?_; refine ld ?_) | (refine is_store ?_; refine sr ?_) | (refine is_alloc ?_; refine al ?_) | (refine is_box ?_; refine bx ?_))
  refine go_call rfl rfl (c_refVarint m.length w (by omega)) ?_
  rintro r w1 ⟨ho, hx⟩
  repeat (first | refine sp ?_ | (refine is_load ?_; refine ld ?_) | (refine is_store ?_; refine sr ?_) | (refine is_alloc ?_; refine al ?_) | (refine is_box ?_; refine bx ?_))
  refine go_call rfl rfl (c_Join _ _ _ _ w1 (by omega) ho.by (hb.ext hx)) ?_
  rintro r2 w2 ⟨ho2, hx2⟩
  rw [show varint m.length ++ m = head m from rfl] at ho2
  repeat (first | refine sp ?_ | (refine is_load ?_; refine ld ?_) | (refine is_store ?_; refine sr ?_) | (refine is_alloc ?_; refine al ?_) | (refine is_box ?_; refine bx ?_))
  refine go_call rfl rfl (c_refChecksum _ (head m) w2 (by omega) ho2.by) ?_
  rintro r3 w3 ⟨rfl, rfl⟩
  rw [← ext_eq]
  generalize hc : extP 0#32 (head m) = c
  have hcl := c.isLt
  repeat (first | refine sp ?_ | (refine is_load ?_; refine ld ?_) | (refine is_store ?_; refine sr ?_) | (refine is_alloc ?_; refine al ?_) | (refine is_box ?_; refine bx ?_))
  refine go_call rfl rfl (c_Word c.toNat 4 w3 (by omega) (by omega)) ?_
  rintro r4 w4 ⟨ho4, hx4⟩
  rw [word4_eq] at ho4
  repeat (first | refine sp ?_ | (refine is_load ?_; refine ld ?_) | (refine is_store ?_; refine sr ?_) | (refine is_alloc ?_; refine al ?_) | (refine is_box ?_; refine bx ?_))
  refine go_call rfl rfl (c_Join _ _ _ _ w4 (by simp [word4]; omega) (ho2.by.ext hx4) ho4.by) ?_
  rintro r5 w5 ⟨ho5, hx5⟩
  repeat (first | refine sp ?_ | (refine is_load ?_; refine ld ?_) | (refine is_store ?_; refine sr ?_) | (refine is_alloc ?_; refine al ?_) | (refine is_box ?_; refine bx ?_))
  refine go_ret1 rfl rfl ⟨_, rfl, ?_, ((hx.trans hx2).trans hx4).trans hx5⟩
  rw [frame, hc]
  exact OwnB.mono ho5 ((hx.trans hx2).trans hx4).size

theorem c_LawAppends (v u : Value) (l m : List (BitVec 8)) (w : World) (hl : l.length ≤ 9223372036854775807) (hm : m.length ≤ 9223372036854775807) (hv : By w v l) (hu : By w u m) :
    Calls Try.prog 7 [v, u].toArray w (Ret fun r w' => r = .bool true ∧ Ext w w') := by
  have hb := hv
  have hb2 := hu
  obtain ⟨sa, cap, rfl, hcap, hr⟩ := hv
  obtain ⟨sb, cbp, rfl, hcbp, hs⟩ := hu
  refine calls_go Try.func7 rfl Try.ntmps7 (Nat.le_of_ble_eq_true rfl) ?_
  by_cases h6 : 600 < l.length
  · repeat (first | refine sp ?_ | (refine is_load ?_; refine ld ?_) | (refine is_store ?_; refine sr ?_) | (refine is_alloc ?_; refine al ?_) | (refine is_box ?_; refine bx ?_))
    refine go_call rfl rfl (c_awake w) ?_
    rintro r w1 ⟨rfl, hx⟩
    repeat (first | refine sp ?_ | (refine is_load ?_; refine ld ?_) | (refine is_store ?_; refine sr ?_) | (refine is_alloc ?_; refine al ?_) | (refine is_box ?_; refine bx ?_))
    exact go_ret1 rfl rfl ⟨_, rfl, rfl, hx⟩
  by_cases h7 : 600 < m.length
  · repeat (first | refine sp ?_ | (refine is_load ?_; refine ld ?_) | (refine is_store ?_; refine sr ?_) | (refine is_alloc ?_; refine al ?_) | (refine is_box ?_; refine bx ?_))
    refine go_call rfl rfl (c_awake w) ?_
    rintro r w1 ⟨rfl, hx⟩
    repeat (first | refine sp ?_ | (refine is_load ?_; refine ld ?_) | (refine is_store ?_; refine sr ?_) | (refine is_alloc ?_; refine al ?_) | (refine is_box ?_; refine bx ?_))
    exact go_ret1 rfl rfl ⟨_, rfl, rfl, hx⟩
  have hfl := frame_len m
  repeat (first | refine sp ?_ | (refine is_load ?_; refine ld ?_) | (refine is_store ?_; refine sr ?_) | (refine is_alloc ?_; refine al ?_) | (refine is_box ?_; refine bx ?_))
  refine go_call rfl rfl (c_Append _ _ l m w (by omega) (by omega) hb hb2) ?_
  rintro r w1 ⟨x, rfl, ho, hx⟩
  repeat (first | refine sp ?_ | (refine is_load ?_; refine ld ?_) | (refine is_store ?_; refine sr ?_) | (refine is_alloc ?_; refine al ?_) | (refine is_box ?_; refine bx ?_))
  refine go_call rfl rfl (c_awake w1) ?_
  rintro r w2 ⟨rfl, hx2⟩
  have hx2' := hx.trans hx2
  repeat (first | refine sp ?_ | (refine is_load ?_; refine ld ?_) | (refine is_store ?_; refine sr ?_) | (refine is_alloc ?_; refine al ?_) | (refine is_box ?_; refine bx ?_))
  refine go_call rfl rfl (c_refFrame _ m w2 (by omega) (hb2.ext hx2')) ?_
  rintro r w3 ⟨ho3, hx3⟩
  have hx3' := hx2'.trans hx3
  repeat (first | refine sp ?_ | (refine is_load ?_; refine ld ?_) | (refine is_store ?_; refine sr ?_) | (refine is_alloc ?_; refine al ?_) | (refine is_box ?_; refine bx ?_))
  refine go_call rfl rfl (c_Join _ _ _ _ w3 (by omega) (hb.ext hx3') ho3.by) ?_
  rintro r w4 ⟨ho4, hx4⟩
  repeat (first | refine sp ?_ | (refine is_load ?_; refine ld ?_) | (refine is_store ?_; refine sr ?_) | (refine is_alloc ?_; refine al ?_) | (refine is_box ?_; refine bx ?_))
  refine go_call rfl rfl (c_Same _ _ _ _ w4 (by simp; omega) (((ho.by.ext hx2).ext hx3).ext hx4) ho4.by) ?_
  rintro r w5 ⟨rfl, hx5⟩
  rw [show sameB (l ++ frame m) (l ++ frame m) = true from decide_eq_true rfl]
  repeat (first | refine sp ?_ | (refine is_load ?_; refine ld ?_) | (refine is_store ?_; refine sr ?_) | (refine is_alloc ?_; refine al ?_) | (refine is_box ?_; refine bx ?_))
  exact go_ret1 rfl rfl ⟨_, rfl, rfl, (hx3'.trans hx4).trans hx5⟩

end Go.Proofs.Ytfgkleggbcpinaa
