/-
  The reference's audit of a dump: the slots that are reachable.
-/
import Derived.Test.YtgafapifpoinlaaCm
set_option linter.unusedVariables false
namespace Go.Proofs.Ytgafapifpoinlaa
open Go.Vc

def Dp.kd (D : Dp) : Nat → List Nat
  | 0 => []
  | j + 1 => match D.slots[j]? with
    | some s => s.kd
    | none => []

/-- An allocated slot that is reached from the roots. -/
inductive Dp.Reach (D : Dp) (roots : List Nat) : Nat → Prop
  | root {i : Nat} : i ∈ roots → D.al i = true → Reach D roots i
  | kid {k c : Nat} : Reach D roots k → c ∈ D.kd k → D.al c = true → Reach D roots c

theorem Dp.Reach.al {D : Dp} {roots : List Nat} {i : Nat} (h : D.Reach roots i) : D.al i = true := by cases h <;> assumption

/-- The marks are the slots that are reached. -/
def Marks (D : Dp) (roots : List Nat) (P : Nat → Bool) : Prop := ∀ j, j < D.slots.length → (P j = true ↔ D.Reach roots (j + 1))

/-- On the way: what is marked, and what is still to be looked at. -/
structure MkI (D : Dp) (roots : List Nat) (P : Nat → Bool) (ws : List Nat) : Prop where
  s1 : ∀ j, j < D.slots.length → P j = true → D.Reach roots (j + 1)
  s2 : ∀ x ∈ ws, D.al x = true → D.Reach roots x
  s3 : ∀ r ∈ roots, D.al r = true → P (r - 1) = true ∨ r ∈ ws
  s4 : ∀ j, j < D.slots.length → P j = true → ∀ c ∈ D.kd (j + 1), D.al c = true → P (c - 1) = true ∨ c ∈ ws

theorem MkI.init (D : Dp) (roots : List Nat) : MkI D roots (fun _ => false) roots :=
  ⟨(fun _ _ h => by cases h), fun x hx ha => .root hx ha, fun r hr _ => Or.inr hr, (fun _ _ h => by cases h)⟩
theorem MkI.fin {D : Dp} {roots : List Nat} {P : Nat → Bool} (h : MkI D roots P []) : Marks D roots P := by
  have key : ∀ i, D.Reach roots i → P (i - 1) = true := by
    intro i hr
    induction hr with
    | root hm ha =>
      rcases h.s3 _ hm ha with h | h
      · exact h
      · cases h
    | kid hk hc ha ih =>
      obtain ⟨j, rfl, hj, _⟩ := Dp.al_lt hk.al
      rcases h.s4 j hj (by simpa using ih) _ hc ha with h | h
      · exact h
      · cases h
  intro j hj
  exact ⟨h.s1 j hj, fun hr => by simpa using key _ hr⟩
/-- A slot that is not allocated, or marked already, is passed over. -/
theorem MkI.skip {D : Dp} {roots : List Nat} {P : Nat → Bool} {ws : List Nat} {x : Nat} (h : MkI D roots P (ws ++ [x])) (hx : D.al x = true → P (x - 1) = true) : MkI D roots P ws := by
  refine ⟨h.s1, fun y hy => h.s2 y (by simp [hy]), fun r hr ha => ?_, fun j hj hp c hc ha => ?_⟩
  · rcases h.s3 r hr ha with h1 | h1
    · exact Or.inl h1
    · rcases List.mem_append.1 h1 with h1 | h1
      · exact Or.inr h1
      · simp at h1; subst h1; exact Or.inl (hx ha)
  · rcases h.s4 j hj hp c hc ha with h1 | h1
    · exact Or.inl h1
    · rcases List.mem_append.1 h1 with h1 | h1
      · exact Or.inr h1
      · simp at h1; subst h1; exact Or.inl (hx ha)
/-- A slot is marked; its children are looked at later. -/
theorem MkI.mark {D : Dp} {roots : List Nat} {P : Nat → Bool} {ws : List Nat} {y : Nat} (h : MkI D roots P (ws ++ [y + 1])) (ha : D.al (y + 1) = true) {s : Slt} (hs : D.slots[y]? = some s) : MkI D roots (upd P y true) (ws ++ s.kd) := by
  have hr := h.s2 (y + 1) (by simp) ha
  have hkd : D.kd (y + 1) = s.kd := by simp only [Dp.kd, hs]
  have up : ∀ c, P (c - 1) = true ∨ c ∈ ws ++ [y + 1] → D.al c = true → upd P y true (c - 1) = true ∨ c ∈ ws ++ s.kd := by
    intro c hc hac
    obtain ⟨j, rfl, hj, _⟩ := Dp.al_lt hac
    rcases hc with hc | hc
    · left; unfold upd; split
      · rfl
      · exact hc
    · rcases List.mem_append.1 hc with hc | hc
      · exact Or.inr (by simp [hc])
      · simp at hc; subst hc; left; simp [upd]
  refine ⟨fun j hj hp => ?_, fun x hx hax => ?_, fun r hr1 har => up r (h.s3 r hr1 har) har, fun j hj hp c hc hac => ?_⟩
  · by_cases e : j = y
    · subst e; exact hr
    · rw [upd_ne _ _ e] at hp; exact h.s1 j hj hp
  · rcases List.mem_append.1 hx with hx | hx
    · exact h.s2 x (by simp [hx]) hax
    · exact .kid hr (by rw [hkd]; exact hx) hax
  · by_cases e : j = y
    · subst e; rw [hkd] at hc; exact Or.inr (by simp [hc])
    · rw [upd_ne _ _ e] at hp; exact up c (h.s4 j hj hp c hc hac) hac

/-- How many slots are not marked. -/
def unm (P : Nat → Bool) (n : Nat) : Nat := sumTo (fun j => if P j = true then 0 else 1) n
theorem unm_le (P : Nat → Bool) (n : Nat) : unm P n ≤ n := by
  have := sumTo_le (f := fun j => if P j = true then 0 else 1) (m := 1) (fun i => by split <;> omega) n
  unfold unm; omega
theorem unm_mark {P : Nat → Bool} {n y : Nat} (hy : y < n) (hp : P y = false) : unm (upd P y true) n + 1 = unm P n := by
  have := sumTo_one (f := fun j => if upd P y true j = true then 0 else 1) (g := fun j => if P j = true then 0 else 1) (k := y) (n := n) hy (fun i _ hne => by rw [upd_ne _ _ hne])
  simp only [hp, upd_same] at this
  unfold unm
  simpa using this

end Go.Proofs.Ytgafapifpoinlaa
