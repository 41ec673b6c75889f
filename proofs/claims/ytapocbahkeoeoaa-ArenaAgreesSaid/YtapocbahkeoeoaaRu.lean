/-
  Slices of records that lie below a mark; giving a world a name.
-/
import Derived.Test.YtapocbahkeoeoaaRd
set_option linter.unusedVariables false
namespace Go.Vc
/-- All below 'lo' is as it was, but for what is new. -/
abbrev FrL (lo : Nat) (w w' : World) : Prop := Fr (fun b => lo ≤ b) w w'
theorem FrL.ext {w w' : World} (h : FrL w.heap.size w w') : Ext w w' := h.mono' fun b hb h => by omega

/-- The slice 'v' holds the records 'xs'; its array is a block below 'hi'. -/
def RdU {α : Type} (w : World) (hi : Nat) (v : Value) (enc : α → List Value) (xs : List α) : Prop :=
  ∃ sa cap, v = .slice sa xs.length cap ∧ xs.length ≤ cap ∧ RdC w sa (xs.flatMap enc) ∧ ∀ b o, sa = some ⟨b, o, none⟩ → xs ≠ [] → b < hi

theorem RdU.fr {α : Type} {w w' : World} {hi : Nat} {v : Value} {enc : α → List Value} {xs : List α} {S : Nat → Prop} (h : RdU w hi v enc xs) (f : Fr S w w') (hS : ∀ b, b < hi → ¬ S b) : RdU w' hi v enc xs := by
  obtain ⟨sa, cap, e, hc, hr, hb⟩ := h
  by_cases hx : xs = []
  · exact ⟨sa, cap, e, hc, (by subst hx; intro j u hj; simp at hj), fun b o e hn => absurd hx hn⟩
  · exact ⟨sa, cap, e, hc, hr.fr f (fun b o e => hS b (hb b o e hx)), hb⟩
theorem RdU.frL {α : Type} {w w' : World} {lo : Nat} {v : Value} {enc : α → List Value} {xs : List α} (h : RdU w lo v enc xs) (f : FrL lo w w') : RdU w' lo v enc xs := h.fr f fun b hb e => by omega
theorem RdU.ext {α : Type} {w w' : World} {hi : Nat} {v : Value} {enc : α → List Value} {xs : List α} (h : RdU w hi v enc xs) (f : Ext w w') : RdU w' hi v enc xs := h.fr f fun _ _ => id
theorem Rd.up {α : Type} {w : World} {lo : Nat} {v : Value} {enc : α → List Value} {xs : List α} (h : Rd w lo v enc xs) : RdU w w.heap.size v enc xs := by
  obtain ⟨sa, cap, e, hc, hr, hb⟩ := h
  exact ⟨sa, cap, e, hc, hr, fun b o e hx => (hb b o e hx).2⟩
theorem RdU.mono {α : Type} {w : World} {hi hi' : Nat} {v : Value} {enc : α → List Value} {xs : List α} (h : RdU w hi v enc xs) (hl : hi ≤ hi') : RdU w hi' v enc xs := by
  obtain ⟨sa, cap, e, hc, hr, hb⟩ := h
  exact ⟨sa, cap, e, hc, hr, fun b o e hx => Nat.lt_of_lt_of_le (hb b o e hx) hl⟩

theorem RdU.cut {α : Type} {w : World} {hi : Nat} {sa : Option Addr} {n cap m a b : Nat} {enc : α → List Value} {xs : List α} (h : RdU w hi (.slice sa n cap) enc xs) (hm : ∀ x, (enc x).length = m) (hm0 : 0 < m) (h1 : a ≤ b) (h2 : b ≤ xs.length) :
    RdU w hi (.slice (cutA sa m cap a) (b - a) (cap - a)) enc ((xs.take b).drop a) := by
  obtain ⟨sa', cap', e, hc, hr, hb⟩ := h
  simp only [Value.slice.injEq] at e
  obtain ⟨rfl, rfl, rfl⟩ := e
  have hl : ((xs.take b).drop a).length = b - a := by simp; omega
  refine ⟨_, _, by rw [hl], by rw [hl]; omega, ?_, ?_⟩
  · by_cases hab : a = b
    · subst hab
      intro j u hj
      rw [List.drop_eq_nil_of_le (by simp; omega)] at hj
      simp at hj
    intro j u hj
    have hj' : (xs.flatMap enc)[a * m + j]? = some u := by
      have e1 : xs = xs.take a ++ (((xs.take b).drop a) ++ xs.drop b) := by
        conv => lhs; rw [← List.take_append_drop a xs]
        congr 1
        conv => lhs; rw [← List.take_append_drop (b - a) (xs.drop a)]
        rw [List.drop_drop, List.drop_take]
        congr 2; omega
      rw [e1, List.flatMap_append, List.flatMap_append]
      have e2 : ((xs.take a).flatMap enc).length = a * m := by rw [flatMap_len hm, List.length_take, Nat.min_eq_left (by omega)]
      rw [List.getElem?_append_right (by omega), e2, Nat.add_sub_cancel_left, List.getElem?_append_left (List.getElem?_eq_some_iff.1 hj).1]
      exact hj
    obtain ⟨bb, o, rfl, hcell⟩ := hr _ u hj'
    refine ⟨bb, o + a * m, ?_, by rw [Nat.add_assoc]; exact hcell⟩
    unfold cutA
    rw [if_neg (by omega), Option.map_some]
    rw [addr_add]
  · intro bb o e hx
    have hxs : xs ≠ [] := by rintro rfl; simp at hx
    have hab : cap ≠ a := by
      rintro rfl
      apply hx
      rw [List.drop_eq_nil_of_le (by simp; omega)]
    unfold cutA at e
    rw [if_neg hab] at e
    cases sa with
    | none => cases e
    | some ad =>
      obtain ⟨b0, o0, sp⟩ := ad
      obtain ⟨x0, hx0⟩ : ∃ x, xs[0]? = some x := ⟨_, List.getElem?_eq_getElem (List.length_pos_iff.2 hxs)⟩
      simp only [Option.map_some, Option.some.injEq] at e
      have hsp : sp = none := by
        obtain ⟨u0, hu0⟩ : ∃ u, (enc x0)[0]? = some u := ⟨_, List.getElem?_eq_getElem (by rw [hm]; exact hm0)⟩
        obtain ⟨b', o', e', _⟩ := hr _ _ (flatMap_get hm hx0 hu0)
        simp only [Option.some.injEq, Addr.mk.injEq] at e'
        exact e'.2.2
      have hs : sp = none ∧ b0 = bb := by
        unfold Addr.add at e
        split at e <;> simp_all
      obtain ⟨rfl, rfl⟩ := hs
      exact hb _ _ rfl hxs

/-- The cells of element 'i'. -/
theorem RdU.at {α : Type} {w : World} {hi : Nat} {sa : Option Addr} {n cap m : Nat} {enc : α → List Value} {xs : List α} (h : RdU w hi (.slice sa n cap) enc xs) (hm : ∀ x, (enc x).length = m) (hm0 : 0 < m) {i : Nat} (hi' : i < xs.length) :
    ∃ b o, sa = some ⟨b, o, none⟩ ∧ b < hi ∧ ∀ j u, (enc xs[i])[j]? = some u → w.cell? ⟨b, o + i * m + j, none⟩ = some u := by
  obtain ⟨sa', cap', e, hc, hr, hb⟩ := h
  simp only [Value.slice.injEq] at e
  obtain ⟨rfl, rfl, rfl⟩ := e
  obtain ⟨b, o, e, hcell⟩ := hr.at hm hm0 hi'
  exact ⟨b, o, e, hb b o e (by rintro rfl; simp at hi'), hcell⟩

/-- The world gets a name; only 'F' is known of it. -/
theorem go_name {P : Program} {n : Nat} {Q : Exit → Act → World → Prop} {k : List It} {st : St} {w : World} {F : World → Prop} (h : F w) (hk : ∀ w', F w' → Go P n Q k st w') : Go P n Q k st w := hk w h

end Go.Vc
