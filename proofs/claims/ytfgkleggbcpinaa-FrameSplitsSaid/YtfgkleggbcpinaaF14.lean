/-
  What a reader of frames gives, and that it reads back the frames that were written. No program in sight.
-/
import Derived.Test.YtfgkleggbcpinaaF13
set_option linter.unusedVariables false
namespace Go.Proofs.Ytfgkleggbcpinaa
open Go.Vc

/-- Payload, end, error. -/
def nextP (l : List (BitVec 8)) (a : Int) : List (BitVec 8) × Nat × Nat :=
  if (uvRes l a).2.2 ≠ 0 then ([], 0, (uvRes l a).2.2)
  else if 1048576 < (uvRes l a).1 then ([], 0, 13)
  else if l.length < (uvRes l a).2.1 + (uvRes l a).1 + 4 then ([], 0, 12)
  else if word4 (extP 0#32 ((l.take ((uvRes l a).2.1 + (uvRes l a).1)).drop a.toNat)) ≠ (l.take ((uvRes l a).2.1 + (uvRes l a).1 + 4)).drop ((uvRes l a).2.1 + (uvRes l a).1) then ([], 0, 14)
  else ((l.take ((uvRes l a).2.1 + (uvRes l a).1)).drop (uvRes l a).2.1, (uvRes l a).2.1 + (uvRes l a).1 + 4, 0)

theorem uvD_bd (pos : Nat) : ∀ (r : List (BitVec 8)) (i v : Nat), i ≤ 9 → v < 2 ^ (7 * i) → ((uvD pos i v r).2.2 = 0 → pos + i + 1 ≤ (uvD pos i v r).2.1 ∧ (uvD pos i v r).2.1 ≤ pos + i + r.length) ∧ (uvD pos i v r).1 < 18446744073709551616 ∧ (uvD pos i v r).2.2 ≤ 13
  | [], i, v, hi, hv => by simp [uvD]
  | c :: r, i, v, hi, hv => by
    have hcl := c.isLt
    rw [uvD]
    split
    · simp
    · rename_i hb
      have hxb : 2 ^ (7 * i) * (c.toNat % 128) + v < 18446744073709551616 ∧ (i < 9 → 2 ^ (7 * i) * (c.toNat % 128) + v < 2 ^ (7 * (i + 1))) := by
        have h4 : 2 ^ (7 * (i + 1)) = 2 ^ (7 * i) * 128 := by rw [show 7 * (i + 1) = 7 * i + 7 by omega, Nat.pow_add]
        have h3 : 2 ^ (7 * i) * (c.toNat % 128) ≤ 2 ^ (7 * i) * 127 := Nat.mul_le_mul (Nat.le_refl _) (by omega)
        by_cases h9 : i = 9
        · subst h9
          have h5 : 2 ^ (7 * 9) * (c.toNat % 128) ≤ 2 ^ (7 * 9) * 1 := Nat.mul_le_mul (Nat.le_refl _) (by omega)
          omega
        · have : 2 ^ (7 * i) ≤ 2 ^ 56 := Nat.pow_le_pow_right (by decide) (by omega)
          omega
      split
      · rename_i hlt
        rw [Nat.mod_eq_of_lt hlt] at hxb
        simp; omega
      · have h9 : i ≠ 9 := by omega
        have := uvD_bd pos r (i+1) (v + 2 ^ (7 * i) * (c.toNat % 128)) (by omega) (by omega)
        simp only [List.length_cons]
        omega

theorem uvRes_bd {l : List (BitVec 8)} {a : Int} : ((uvRes l a).2.2 = 0 → 0 ≤ a ∧ a.toNat + 1 ≤ (uvRes l a).2.1 ∧ (uvRes l a).2.1 ≤ l.length) ∧ (uvRes l a).1 < 18446744073709551616 ∧ (uvRes l a).2.2 ≤ 13 := by
  unfold uvRes
  split
  · simp
  · have := uvD_bd a.toNat (l.drop a.toNat) 0 0 (by omega) (by simp)
    simp only [List.length_drop] at this
    omega

theorem nextP_bd {l : List (BitVec 8)} {a : Int} : (nextP l a).2.2 ≤ 14 ∧ (nextP l a).2.1 ≤ l.length ∧ ((nextP l a).2.2 = 0 → 0 ≤ a ∧ a.toNat < (nextP l a).2.1 ∧ (nextP l a).1.length ≤ l.length) := by
  have h := @uvRes_bd l a
  unfold nextP
  split
  · simp; omega
  · split
    · simp
    · split
      · simp
      · split
        · simp
        · simp; omega

theorem uvD_uvar (pos : Nat) : ∀ (f n i v : Nat) (rest : List (BitVec 8)), f + i = 9 → n < 2 ^ (7 * f + 1) → (0 < i → n ≠ 0) → uvD pos i v (uvar f n ++ rest) = (v + 2 ^ (7 * i) * n, pos + i + (uvar f n).length, 0)
  | 0, n, i, v, rest, hf, hn, h0 => by
    have : (BitVec.ofNat 8 n).toNat = n := by simp; omega
    simp only [uvar, List.cons_append, List.nil_append, uvD, this]
    rw [if_neg (by omega), if_pos (by omega)]
    simp
  | f+1, n, i, v, rest, hf, hn, h0 => by
    rw [uvar]
    split
    · rename_i h
      have : (BitVec.ofNat 8 n).toNat = n := by simp; omega
      simp only [List.cons_append, List.nil_append, uvD, this]
      rw [if_neg (by omega), if_pos (by omega)]
      simp
    · rename_i h
      have : (BitVec.ofNat 8 (n % 128 + 128)).toNat = n % 128 + 128 := by simp; omega
      simp only [List.cons_append, uvD, this]
      rw [if_neg (by omega), if_neg (by omega)]
      rw [uvD_uvar pos f (n / 128) (i+1) _ rest (by omega) ?_ (by omega)]
      · have e : (n % 128 + 128) % 128 = n % 128 := by omega
        have h4 : 2 ^ (7 * (i + 1)) = 2 ^ (7 * i) * 128 := by rw [show 7 * (i + 1) = 7 * i + 7 by omega, Nat.pow_add]
        have h5 : 2 ^ (7 * i) * n = 2 ^ (7 * i) * (n % 128) + 2 ^ (7 * i) * 128 * (n / 128) := by
          rw [Nat.mul_assoc, ← Nat.mul_add]; congr 1; omega
        rw [e, h4, h5]
        simp only [List.length_cons, Prod.mk.injEq, and_true]
        omega
      · rw [Nat.div_lt_iff_lt_mul (by decide), show 2 ^ (7 * f + 1) * 128 = 2 ^ (7 * (f + 1) + 1) by rw [show 7 * (f + 1) + 1 = 7 * f + 1 + 7 by omega, Nat.pow_add 2 (7 * f + 1) 7]]
        exact hn

theorem uvD_short (pos : Nat) : ∀ (f n i v k : Nat), f + i = 9 → n < 2 ^ (7 * f + 1) → (0 < i → n ≠ 0) → k < (uvar f n).length → uvD pos i v ((uvar f n).take k) = (0, 0, 12)
  | f, n, i, v, 0, _, _, _, _ => by simp [uvD]
  | 0, n, i, v, k+1, _, _, _, hk => by simp [uvar] at hk
  | f+1, n, i, v, k+1, hf, hn, h0, hk => by
    rw [uvar] at hk ⊢
    split
    · rename_i h; rw [if_pos h] at hk; simp at hk
    · rename_i h
      rw [if_neg h] at hk
      have : (BitVec.ofNat 8 (n % 128 + 128)).toNat = n % 128 + 128 := by simp; omega
      simp only [List.take_succ_cons, uvD, this]
      rw [if_neg (by omega), if_neg (by omega)]
      refine uvD_short pos f (n / 128) (i+1) _ k (by omega) ?_ (by omega) (by simpa using hk)
      rw [Nat.div_lt_iff_lt_mul (by decide), show 2 ^ (7 * f + 1) * 128 = 2 ^ (7 * (f + 1) + 1) by rw [show 7 * (f + 1) + 1 = 7 * f + 1 + 7 by omega, Nat.pow_add 2 (7 * f + 1) 7]]
      exact hn

theorem uvRes_varint (pre rest : List (BitVec 8)) (n : Nat) (hn : n < 18446744073709551616) : uvRes (pre ++ (varint n ++ rest)) (pre.length : Int) = (n, pre.length + (varint n).length, 0) := by
  unfold uvRes
  rw [if_neg (by simp; omega), Int.toNat_natCast, List.drop_left, varint, uvD_uvar _ 9 n 0 0 rest rfl hn (by omega)]
  simp

theorem uvRes_short (pre : List (BitVec 8)) (n k : Nat) (hn : n < 18446744073709551616) (hk : k < (varint n).length) : uvRes (pre ++ (varint n).take k) (pre.length : Int) = (0, 0, 12) := by
  unfold uvRes
  rw [if_neg (by simp; omega), Int.toNat_natCast, List.drop_left, varint, uvD_short _ 9 n 0 0 k rfl hn (by omega) hk]

theorem nextP_frame (pre rest m : List (BitVec 8)) (hm : m.length ≤ 1048576) : nextP (pre ++ (frame m ++ rest)) (pre.length : Int) = (m, pre.length + (frame m).length, 0) := by
  have e : pre ++ (frame m ++ rest) = pre ++ (varint m.length ++ (m ++ (word4 (extP 0#32 (head m)) ++ rest))) := by simp [frame, head]
  have hr : uvRes (pre ++ (frame m ++ rest)) (pre.length : Int) = (m.length, pre.length + (varint m.length).length, 0) := by rw [e, uvRes_varint _ _ _ (by omega)]
  have hl : (frame m).length = (varint m.length).length + m.length + 4 := by simp [frame, head, word4]; omega
  unfold nextP
  rw [hr]
  simp only []
  have hw : ∀ c, (word4 c).length = 4 := fun c => rfl
  have t1 : (pre ++ (frame m ++ rest)).take (pre.length + (varint m.length).length + m.length) = pre ++ head m := by
    rw [show pre ++ (frame m ++ rest) = (pre ++ head m) ++ (word4 (extP 0#32 (head m)) ++ rest) by simp [frame]]
    rw [List.take_left' (by simp [head]; omega)]
  have t2 : (pre ++ (frame m ++ rest)).take (pre.length + (varint m.length).length + m.length + 4) = (pre ++ head m) ++ word4 (extP 0#32 (head m)) := by
    rw [show pre ++ (frame m ++ rest) = ((pre ++ head m) ++ word4 (extP 0#32 (head m))) ++ rest by simp [frame]]
    rw [List.take_left' (by simp [head, word4]; omega)]
  rw [if_neg (by simp), if_neg (by omega), if_neg (by simp; omega), t1, t2, Int.toNat_natCast, List.drop_left, List.drop_left' (by simp [head]; omega), if_neg (by simp)]
  rw [show pre ++ head m = (pre ++ varint m.length) ++ m by simp [head], List.drop_left' (by simp)]
  simp only [Prod.mk.injEq, true_and, and_true]
  omega

theorem nextP_torn (pre m : List (BitVec 8)) (k : Nat) (hm : m.length ≤ 1048576) (hk : k < (frame m).length) : (nextP (pre ++ (frame m).take k) (pre.length : Int)).2.2 = 12 := by
  have hl : (frame m).length = (varint m.length).length + m.length + 4 := by simp [frame, head, word4]; omega
  by_cases hv : k < (varint m.length).length
  · have e : (frame m).take k = (varint m.length).take k := by
      rw [show frame m = varint m.length ++ (m ++ word4 (extP 0#32 (head m))) by simp [frame, head], List.take_append_of_le_length (by omega)]
    unfold nextP
    rw [e, uvRes_short _ _ _ (by omega) hv]
    simp
  · have e : (frame m).take k = varint m.length ++ (m ++ word4 (extP 0#32 (head m))).take (k - (varint m.length).length) := by
      rw [show frame m = varint m.length ++ (m ++ word4 (extP 0#32 (head m))) by simp [frame, head], List.take_append, List.take_of_length_le (by omega)]
    unfold nextP
    rw [e, uvRes_varint _ _ _ (by omega)]
    simp only []
    rw [if_neg (by simp), if_neg (by omega), if_pos]
    simp only [List.length_append, List.length_take, word4, List.length_cons, List.length_nil]
    omega

/-- The frames from 'at' on. -/
def splitF : Nat → List (BitVec 8) → Nat → List (List (BitVec 8)) × Nat
  | 0, _, a => ([], a)
  | f+1, l, a => if (nextP l (a : Int)).2.2 ≠ 0 then ([], a) else ((nextP l (a : Int)).1 :: (splitF f l (nextP l (a : Int)).2.1).1, (splitF f l (nextP l (a : Int)).2.1).2)

def frames (ms : List (List (BitVec 8))) : List (BitVec 8) := ms.flatMap frame

theorem splitF_frames : ∀ (ms : List (List (BitVec 8))) (f : Nat) (pre tl : List (BitVec 8)), (∀ m ∈ ms, m.length ≤ 1048576) → ms.length < f → (nextP (pre ++ (frames ms ++ tl)) ((pre ++ frames ms).length : Nat)).2.2 ≠ 0 →
    splitF f (pre ++ (frames ms ++ tl)) pre.length = (ms, (pre ++ frames ms).length)
  | [], 0, _, _, _, hf, _ => by simp at hf
  | [], f+1, pre, tl, hm, hf, ht => by
    rw [splitF, if_pos (by simpa [frames] using ht)]
    simp [frames]
  | m :: ms, 0, _, _, _, hf, _ => by simp at hf
  | m :: ms, f+1, pre, tl, hm, hf, ht => by
    have e : pre ++ (frames (m :: ms) ++ tl) = pre ++ (frame m ++ (frames ms ++ tl)) := by simp [frames]
    have e2 : pre ++ (frame m ++ (frames ms ++ tl)) = (pre ++ frame m) ++ (frames ms ++ tl) := by simp
    have e3 : pre ++ frames (m :: ms) = (pre ++ frame m) ++ frames ms := by simp [frames]
    rw [e3] at ht ⊢
    rw [e] at ht ⊢
    rw [splitF, nextP_frame _ _ _ (hm m (by simp))]
    simp only [ne_eq, not_true_eq_false, if_false]
    rw [show pre.length + (frame m).length = (pre ++ frame m).length by simp]
    rw [e2] at ht ⊢
    rw [splitF_frames ms f (pre ++ frame m) tl (fun x hx => hm x (by simp [hx])) (by simpa using hf) ht]

end Go.Proofs.Ytfgkleggbcpinaa
