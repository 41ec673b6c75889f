/-
  Slices of records that are read.
-/
import Derived.Test.YtapocbahkeoeoaaSl
set_option linter.unusedVariables false
namespace Go.Vc

theorem flatMap_len {α : Type} {enc : α → List Value} {m : Nat} (hm : ∀ x, (enc x).length = m) : ∀ xs : List α, (xs.flatMap enc).length = xs.length * m
  | [] => by simp
  | x :: xs => by
    rw [List.flatMap_cons, List.length_append, flatMap_len hm xs, hm, List.length_cons, Nat.succ_mul]; omega

theorem flatMap_get {α : Type} {enc : α → List Value} {m : Nat} (hm : ∀ x, (enc x).length = m) : ∀ {xs : List α} {i j : Nat} {x : α} {u : Value}, xs[i]? = some x → (enc x)[j]? = some u → (xs.flatMap enc)[i * m + j]? = some u
  | [], i, j, x, u, h, _ => by simp at h
  | y :: xs, 0, j, x, u, h, hu => by
    simp at h; subst h
    have hj : j < (enc y).length := (List.getElem?_eq_some_iff.1 hu).1
    rw [List.flatMap_cons, Nat.zero_mul, Nat.zero_add, List.getElem?_append_left hj]; exact hu
  | y :: xs, i + 1, j, x, u, h, hu => by
    have ih := flatMap_get hm (xs := xs) (i := i) (by simpa using h) hu
    rw [List.flatMap_cons, List.getElem?_append_right (by rw [hm, Nat.succ_mul]; omega), hm, show (i + 1) * m + j - m = i * m + j by rw [Nat.succ_mul]; omega]
    exact ih

theorem flatMap_one {α : Type} (f : α → Value) (xs : List α) : xs.flatMap (fun x => [f x]) = xs.map f := by
  induction xs with
  | nil => rfl
  | cons x xs ih => simp [List.flatMap_cons, ih]

/-- The slice 'v' holds the records 'xs'; its array is a block from 'lo' on. -/
def Rd {α : Type} (w : World) (lo : Nat) (v : Value) (enc : α → List Value) (xs : List α) : Prop :=
  ∃ sa cap, v = .slice sa xs.length cap ∧ xs.length ≤ cap ∧ RdC w sa (xs.flatMap enc) ∧ ∀ b o, sa = some ⟨b, o, none⟩ → xs ≠ [] → lo ≤ b ∧ b < w.heap.size

theorem Rd.fr {α : Type} {w w' : World} {lo : Nat} {v : Value} {enc : α → List Value} {xs : List α} {S : Nat → Prop} (h : Rd w lo v enc xs) (f : Fr S w w') (hS : ∀ b, lo ≤ b → b < w.heap.size → ¬ S b) : Rd w' lo v enc xs := by
  obtain ⟨sa, cap, e, hc, hr, hb⟩ := h
  by_cases hx : xs = []
  · exact ⟨sa, cap, e, hc, (by subst hx; intro j u hj; simp at hj), fun b o e hn => absurd hx hn⟩
  · exact ⟨sa, cap, e, hc, hr.fr f (fun b o e => hS b (hb b o e hx).1 (hb b o e hx).2), fun b o e hx => ⟨(hb b o e hx).1, Nat.lt_of_lt_of_le (hb b o e hx).2 f.size⟩⟩
theorem Rd.ext {α : Type} {w w' : World} {lo : Nat} {v : Value} {enc : α → List Value} {xs : List α} (h : Rd w lo v enc xs) (f : Ext w w') : Rd w' lo v enc xs := h.fr f fun _ _ _ => id
theorem Rd.mono {α : Type} {w : World} {lo lo' : Nat} {v : Value} {enc : α → List Value} {xs : List α} (h : Rd w lo v enc xs) (hl : lo' ≤ lo) : Rd w lo' v enc xs := by
  obtain ⟨sa, cap, e, hc, hr, hb⟩ := h
  exact ⟨sa, cap, e, hc, hr, fun b o e hx => ⟨Nat.le_trans hl (hb b o e hx).1, (hb b o e hx).2⟩⟩
theorem Rd.nil {α : Type} (w : World) (lo : Nat) (enc : α → List Value) : Rd w lo (.slice none 0 0) enc [] := ⟨none, 0, rfl, Nat.le_refl _, fun j u h => by simp at h, fun b o e _ => by cases e⟩

/-- The cells of element 'i'. -/
theorem RdC.at {α : Type} {w : World} {sa : Option Addr} {enc : α → List Value} {xs : List α} {m : Nat} (hr : RdC w sa (xs.flatMap enc)) (hm : ∀ x, (enc x).length = m) (hm0 : 0 < m) {i : Nat} (hi : i < xs.length) :
    ∃ b o, sa = some ⟨b, o, none⟩ ∧ ∀ j u, (enc xs[i])[j]? = some u → w.cell? ⟨b, o + i * m + j, none⟩ = some u := by
  have h0 : (enc xs[i])[0]? = some ((enc xs[i])[0]'(by rw [hm]; exact hm0)) := List.getElem?_eq_getElem _
  obtain ⟨b, o, e, _⟩ := hr _ _ (flatMap_get hm (List.getElem?_eq_getElem hi) h0)
  refine ⟨b, o, e, fun j u hu => ?_⟩
  obtain ⟨b', o', e', hc⟩ := hr _ _ (flatMap_get hm (List.getElem?_eq_getElem hi) hu)
  rw [e] at e'
  simp only [Option.some.injEq, Addr.mk.injEq] at e'
  obtain ⟨rfl, rfl, _⟩ := e'
  rw [Nat.add_assoc]; exact hc

theorem Own.rd {α : Type} {w : World} {lo : Nat} {e : TypeId} {m n : Nat} {v : Value} {enc : α → List Value} {xs : List α} (h : Own w lo e m v n (xs.flatMap enc)) (hn : n = xs.length) : Rd w lo v enc xs := by
  subst hn
  obtain ⟨sa, cap, e1, hc, hr⟩ := h.slice
  refine ⟨sa, cap, e1, hc, hr, fun b o e2 _ => ?_⟩
  subst e1; subst e2
  rcases h.2 with ⟨h3, _⟩ | ⟨g, cap', cur, h3, hg, hh, _⟩
  · cases h3
  · simp only [Value.slice.injEq, Option.some.injEq, Addr.mk.injEq] at h3
    obtain ⟨⟨rfl, _⟩, _⟩ := h3
    exact ⟨hg, (Array.getElem?_eq_some_iff.1 hh).1⟩

theorem At.rd {α : Type} {w : World} {lo b n : Nat} {T : TypeId} {enc : α → List Value} {xs : List α} (h : At w b (xs.flatMap enc) T) (hn : n = xs.length) (hlo : lo ≤ b) : Rd w lo (.slice (some ⟨b, 0, none⟩) n n) enc xs := by
  subst hn
  refine ⟨_, _, rfl, Nat.le_refl _, fun j u hj => ⟨b, 0, rfl, ?_⟩, fun b' o e _ => ?_⟩
  · rw [Nat.zero_add]; exact h.cell hj
  · simp only [Option.some.injEq, Addr.mk.injEq] at e
    obtain ⟨rfl, _⟩ := e
    exact ⟨hlo, h.lt⟩

end Go.Vc
