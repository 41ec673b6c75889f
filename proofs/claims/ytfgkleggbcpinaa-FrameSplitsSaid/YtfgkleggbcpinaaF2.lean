/-
  The checksum: what the two texts compute, and that it is the same.
-/
import Derived.Test.YtfgkleggbcpinaaF1
set_option linter.unusedVariables false
namespace Go.Proofs.Ytfgkleggbcpinaa
open Go.Vc

def cbit (x : BitVec 32) : BitVec 32 := if x &&& 1#32 = 1#32 then (x >>> 1) ^^^ 0x82F63B78#32 else x >>> 1
def cbits : Nat → BitVec 32 → BitVec 32
  | 0, x => x
  | k+1, x => cbit (cbits k x)
def tbl (i : Nat) : BitVec 32 := cbits 8 (BitVec.ofNat 32 i)
def stepP (x : BitVec 32) (b : BitVec 8) : BitVec 32 := (x >>> 8) ^^^ tbl ((x.setWidth 8) ^^^ b).toNat
def stepR (x : BitVec 32) (b : BitVec 8) : BitVec 32 := cbits 8 (x ^^^ b.setWidth 32)
def extP (c : BitVec 32) (l : List (BitVec 8)) : BitVec 32 := ~~~ (l.foldl stepP (~~~c))
def extR (c : BitVec 32) (l : List (BitVec 8)) : BitVec 32 := ~~~ (l.foldl stepR (~~~c))

/-! ### The bit step is linear -/

theorem cbit_eq (x : BitVec 32) : cbit x = (x >>> 1) ^^^ (if x.getLsbD 0 then 0x82F63B78#32 else 0#32) := by
  unfold cbit
  have h : (x &&& 1#32 = 1#32) ↔ x.getLsbD 0 = true := by
    constructor
    · intro h
      have := congrArg (fun y => y.getLsbD 0) h
      simpa using this
    · intro h
      apply BitVec.eq_of_getLsbD_eq
      intro i hi
      rcases i with _ | i
      · simp [h]
      · simp
  by_cases hb : x.getLsbD 0 = true
  · rw [if_pos (h.2 hb), if_pos hb]
  · rw [if_neg (fun e => hb (h.1 e)), if_neg hb]; simp

theorem cbit_xor (x y : BitVec 32) : cbit (x ^^^ y) = cbit x ^^^ cbit y := by
  simp only [cbit_eq, BitVec.ushiftRight_xor_distrib, BitVec.getLsbD_xor]
  cases x.getLsbD 0 <;> cases y.getLsbD 0 <;> simp <;> (try ac_rfl)
  generalize x >>> 1 = a; generalize y >>> 1 = b
  rw [show a ^^^ 2197175160#32 ^^^ (b ^^^ 2197175160#32) = (a ^^^ b) ^^^ (2197175160#32 ^^^ 2197175160#32) from by ac_rfl]
  simp

theorem cbits_xor : ∀ (k : Nat) (x y : BitVec 32), cbits k (x ^^^ y) = cbits k x ^^^ cbits k y
  | 0, _, _ => rfl
  | k+1, x, y => by simp only [cbits, cbits_xor k, cbit_xor]

theorem cbits_shift : ∀ (k : Nat) (x : BitVec 32), (∀ i, i < k → x.getLsbD i = false) → cbits k x = x >>> k
  | 0, x, _ => by simp [cbits]
  | k+1, x, h => by
    rw [cbits, cbits_shift k x (fun i hi => h i (by omega)), cbit_eq]
    have : (x >>> k).getLsbD 0 = false := by simp [h k (by omega)]
    rw [this]
    simp [BitVec.shiftRight_add]

theorem m255 (i : Nat) (hi : i < 32) : (255#32).getLsbD i = decide (i < 8) := by
  have : ∀ i : Fin 32, (255#32).getLsbD i.val = decide (i.val < 8) := by decide
  exact this ⟨i, hi⟩
theorem mHigh (i : Nat) (hi : i < 32) : (4294967040#32).getLsbD i = decide (8 ≤ i) := by
  have : ∀ i : Fin 32, (4294967040#32).getLsbD i.val = decide (8 ≤ i.val) := by decide
  exact this ⟨i, hi⟩

theorem step_eq (x : BitVec 32) (b : BitVec 8) : stepP x b = stepR x b := by
  unfold stepP stepR tbl
  have e1 : BitVec.ofNat 32 ((x.setWidth 8) ^^^ b).toNat = (x &&& 255#32) ^^^ b.setWidth 32 := by
    apply BitVec.eq_of_getLsbD_eq
    intro i hi
    rw [BitVec.ofNat_toNat]
    simp only [BitVec.getLsbD_setWidth, BitVec.getLsbD_xor, BitVec.getLsbD_and, hi, decide_true, Bool.true_and, m255 i hi]
    by_cases h8 : i < 8
    · simp [h8]
    · simp [h8, BitVec.getLsbD_of_ge b i (by omega)]
  have e2 : x ^^^ b.setWidth 32 = ((x &&& 255#32) ^^^ b.setWidth 32) ^^^ (x &&& 4294967040#32) := by
    have : x = (x &&& 255#32) ^^^ (x &&& 4294967040#32) := by
      apply BitVec.eq_of_getLsbD_eq
      intro i hi
      simp only [BitVec.getLsbD_xor, BitVec.getLsbD_and, m255 i hi, mHigh i hi]
      by_cases h8 : i < 8
      · simp [h8, show ¬ 8 ≤ i by omega]
      · simp [h8, show 8 ≤ i by omega]
    conv => lhs; rw [this]
    ac_rfl
  have e3 : cbits 8 (x &&& 4294967040#32) = x >>> 8 := by
    rw [cbits_shift 8 _ (fun i hi => by
      rw [BitVec.getLsbD_and, mHigh i (by omega)]
      simp [show ¬ 8 ≤ i by omega])]
    apply BitVec.eq_of_getLsbD_eq
    intro i hi
    rw [BitVec.getLsbD_ushiftRight, BitVec.getLsbD_ushiftRight, BitVec.getLsbD_and]
    by_cases hlt : 8 + i < 32
    · rw [mHigh _ hlt]; simp
    · rw [BitVec.getLsbD_of_ge x (8 + i) (by omega)]; simp
  rw [e1, e2, cbits_xor 8 _ (x &&& 4294967040#32), e3]
  ac_rfl

theorem ext_eq (c : BitVec 32) (l : List (BitVec 8)) : extP c l = extR c l := by
  unfold extP extR
  congr 1
  have : stepP = stepR := by funext x b; exact step_eq x b
  rw [this]

theorem extP_append (c : BitVec 32) (l m : List (BitVec 8)) : extP c (l ++ m) = extP (extP c l) m := by
  unfold extP
  rw [List.foldl_append, BitVec.not_not]
