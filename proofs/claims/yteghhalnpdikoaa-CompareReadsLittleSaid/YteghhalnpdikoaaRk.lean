/-
  Ranks and selections.
-/
import Derived.Test.YteghhalnpdikoaaRr
set_option linter.unusedVariables false
namespace Go.Proofs.Yteghhalnpdikoaa
open Go.Vc

def befP (eq : Bool) (x : Int) (e : Int × Int) : Bool := if eq = true then decide (e.1 ≤ x) else decide (e.1 < x)
def cntF (p : Int × Int → Bool) (l : List (Int × Int)) : Nat := (l.filter p).length
theorem cntF_le (p : Int × Int → Bool) (l : List (Int × Int)) : cntF p l ≤ l.length := List.length_filter_le p l
theorem cntF_append (p : Int × Int → Bool) (l m : List (Int × Int)) : cntF p (l ++ m) = cntF p l + cntF p m := by unfold cntF; simp
theorem cntF_cons (p : Int × Int → Bool) (x : Int × Int) (m : List (Int × Int)) : cntF p (x :: m) = (if p x = true then 1 else 0) + cntF p m := by
  unfold cntF; rw [List.filter_cons]; split <;> simp; omega
theorem cntF_all {p : Int × Int → Bool} {l : List (Int × Int)} (h : ∀ e ∈ l, p e = true) : cntF p l = l.length := by unfold cntF; rw [List.filter_eq_self.2 h]
theorem cntF_none {p : Int × Int → Bool} {l : List (Int × Int)} (h : ∀ e ∈ l, p e = false) : cntF p l = 0 := by
  unfold cntF; rw [List.filter_eq_nil_iff.2 (fun e he => by rw [h e he]; decide)]; rfl

/-- How many keys lie in a range. -/
def cntR (x y : Int) (l : List (Int × Int)) : Nat := cntF (fun e => decide (x ≤ e.1 ∧ e.1 ≤ y)) l
theorem cntR_eq {x y : Int} (h : x ≤ y) : ∀ l : List (Int × Int), cntF (befP true y) l = cntR x y l + cntF (befP false x) l
  | [] => rfl
  | e :: l => by
    unfold cntR
    rw [cntF_cons, cntF_cons, cntF_cons]
    have ih := cntR_eq h l
    unfold cntR at ih
    rw [ih]
    have : (if befP true y e = true then 1 else 0) = (if (decide (x ≤ e.1 ∧ e.1 ≤ y)) = true then 1 else 0) + (if befP false x e = true then 1 else 0) := by
      unfold befP
      by_cases h1 : e.1 < x <;> by_cases h2 : e.1 ≤ y <;> simp [h1, h2] <;> omega
    omega
theorem cntR_none {x y : Int} (h : y < x) (l : List (Int × Int)) : cntR x y l = 0 := cntF_none fun e _ => by simp; omega

/-- The entry at a place. -/
def entAt (l : List (Int × Int)) (x : Int) : Option (Int × Int) := if x < 0 then none else l[x.toNat]?
def entV (o : Option (Int × Int)) : Value := .tuple #[.agg ⟨entC (o.getD (0, 0))⟩, .bool o.isSome]

end Go.Proofs.Yteghhalnpdikoaa
