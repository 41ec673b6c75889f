/-
  Lists of entries in the order of their keys; how many reads a function made.
-/
import Derived.Test.YtfaeboamjfdjlaaPl
import Derived.Test.YtfaeboamjfdjlaaS8
set_option linter.unusedVariables false
namespace Go.Proofs.Ytfaeboamjfdjlaa
open Go.Vc

def insGo (e : Int × Int) : Bool → List (Int × Int) → List (Int × Int)
  | p, [] => if p = true then [] else [e]
  | p, x :: xs => (if p = false ∧ e.1 ≤ x.1 then [e] else []) ++ ((if x.1 ≠ e.1 then [x] else []) ++ insGo e (p || decide (e.1 ≤ x.1)) xs)
def ins (l : List (Int × Int)) (e : Int × Int) : List (Int × Int) := insGo e false l

theorem insGo_true (e : Int × Int) : ∀ l, insGo e true l = l.filter (fun x => decide (x.1 ≠ e.1))
  | [] => rfl
  | x :: xs => by
    simp only [insGo, Bool.true_or, insGo_true e xs, List.filter_cons]
    by_cases h : x.1 = e.1 <;> simp [h]
theorem insGo_mem {e y : Int × Int} : ∀ {l : List (Int × Int)} {p : Bool}, y ∈ insGo e p l → y = e ∨ y ∈ l
  | [], p, h => by
    unfold insGo at h
    split at h
    · cases h
    · simp at h; exact Or.inl h
  | x :: xs, p, h => by
    simp only [insGo, List.mem_append] at h
    rcases h with h | h | h
    · split at h
      · simp at h; exact Or.inl h
      · cases h
    · split at h
      · simp at h; subst h; exact Or.inr (by simp)
      · cases h
    · rcases insGo_mem h with h | h
      · exact Or.inl h
      · exact Or.inr (by simp [h])
theorem insGo_len {e : Int × Int} : ∀ (l : List (Int × Int)) (p : Bool), (insGo e p l).length ≤ l.length + (if p = true then 0 else 1)
  | [], p => by unfold insGo; cases p <;> simp
  | x :: xs, p => by
    simp only [insGo, List.length_append, List.length_cons]
    have ih := insGo_len (e := e) xs (p || decide (e.1 ≤ x.1))
    have h1 : (if x.1 ≠ e.1 then [x] else []).length ≤ 1 := by split <;> simp
    cases p with
    | true => simp at ih ⊢; simp at h1; omega
    | false =>
      by_cases h : e.1 ≤ x.1
      · simp [h] at ih ⊢; simp at h1; omega
      · simp [h] at ih ⊢; simp at h1; omega
theorem ins_srt {e : Int × Int} : ∀ {l : List (Int × Int)}, Srt l → Srt (ins l e)
  | [], _ => by simp [ins, insGo, Srt]
  | x :: xs, h => by
    obtain ⟨h1, h2⟩ := List.pairwise_cons.1 h
    unfold ins
    by_cases hx : e.1 ≤ x.1
    · have e1 : insGo e false (x :: xs) = [e] ++ (x :: xs).filter (fun y => decide (y.1 ≠ e.1)) := by
        simp only [insGo, hx, and_self, if_true, decide_true, Bool.or_true, insGo_true]
        by_cases h : x.1 = e.1 <;> simp [h]
      rw [e1]
      refine List.pairwise_cons.2 ⟨fun y hy => ?_, List.Pairwise.filter _ h⟩
      obtain ⟨hy1, hy2⟩ := List.mem_filter.1 hy
      have hy2 : y.1 ≠ e.1 := of_decide_eq_true hy2
      rcases List.mem_cons.1 hy1 with rfl | hy3
      · omega
      · have := h1 y hy3; omega
    · have e1 : insGo e false (x :: xs) = x :: insGo e false xs := by
        have hne : x.1 ≠ e.1 := by omega
        simp [insGo, hx, hne]
      rw [e1]
      refine List.pairwise_cons.2 ⟨fun y hy => ?_, ins_srt h2⟩
      rcases insGo_mem hy with rfl | hy
      · omega
      · exact h1 y hy

/-- The slice is the function's own: it holds entries. -/
def OwnE (w : World) (lo : Nat) (v : Value) (l : List (Int × Int)) : Prop := Own w lo 88 2 v l.length (l.flatMap entC)
theorem OwnE.mono {w : World} {lo lo' : Nat} {v : Value} {l : List (Int × Int)} (h : OwnE w lo v l) (hl : lo' ≤ lo) : OwnE w lo' v l :=
  ⟨h.1, h.2.imp id (fun ⟨g, cap, cur, a, b, c⟩ => ⟨g, cap, cur, a, Nat.le_trans hl b, c⟩)⟩
theorem OwnE.rd {w : World} {lo : Nat} {v : Value} {l : List (Int × Int)} (h : OwnE w lo v l) : Rd w lo v entC l := Own.rd h rfl

/-- A valid list of entries. -/
structure OkL (l : List (Int × Int)) (m : Nat) : Prop where
  srt : Srt l
  ine : InE l
  len : l.length ≤ m

/-- The height of a balanced tree is at most the greatest height for its size. -/
theorem Tr.ht_le {t : Tr} (h : t.bal) (hs : t.sz ≤ 2147483647) : (t.ht : Int) ≤ maxHeight t.sz := by
  obtain ⟨m, e, h1, h2, h3⟩ := maxHeight_spec (n := (t.sz : Int)) (by omega) (by omega)
  have h4 := Tr.wt_le h
  have : t.ht < m + 1 := wt_lt (by omega)
  omega

end Go.Proofs.Ytfaeboamjfdjlaa
