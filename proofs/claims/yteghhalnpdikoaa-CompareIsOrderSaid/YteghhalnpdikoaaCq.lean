/-
  Comparing lists in the order of their keys, entry by entry. No program in sight.
-/
import Derived.Test.YteghhalnpdikoaaTq
set_option linter.unusedVariables false
namespace Go.Proofs.Yteghhalnpdikoaa
open Go.Vc

theorem Srt.tail {a : Int × Int} {l : List (Int × Int)} (h : Srt (a :: l)) : Srt l := (List.pairwise_cons.1 h).2
theorem Srt.head {a : Int × Int} {l : List (Int × Int)} (h : Srt (a :: l)) : ∀ e ∈ l, a.1 < e.1 := (List.pairwise_cons.1 h).1
theorem Srt.app {l m : List (Int × Int)} (h : Srt (l ++ m)) : Srt l ∧ Srt m ∧ ∀ a ∈ l, ∀ b ∈ m, a.1 < b.1 := List.pairwise_append.1 h

def eqB (l m : List (Int × Int)) : Bool := decide (l = m)
def subB (l m : List (Int × Int)) : Bool := decide (∀ e ∈ l, e ∈ m)
def disB (l m : List (Int × Int)) : Bool := decide (∀ e ∈ l, ∀ f ∈ m, e.1 ≠ f.1)
def cmpL : List (Int × Int) → List (Int × Int) → Int
  | [], [] => 0
  | [], _ :: _ => -1
  | _ :: _, [] => 1
  | a :: l, b :: m => if a.1 < b.1 ∨ (a.1 = b.1 ∧ a.2 < b.2) then -1 else if a = b then cmpL l m else 1

/-- Is the head of the first list looked at? -/
def inL : List (Int × Int) → List (Int × Int) → Bool
  | [], _ => false
  | _ :: _, [] => true
  | a :: _, b :: _ => decide (a.1 ≤ b.1)
def nxt (l m : List (Int × Int)) : List (Int × Int) := if inL l m = true then l.tail else l
def hdK : List (Int × Int) → Int
  | [] => 0
  | a :: _ => a.1
def hdV : List (Int × Int) → Int
  | [] => 0
  | a :: _ => a.2
def pv (l m : List (Int × Int)) : Int := if inL l m = true then hdV l else 0
def pk (l m : List (Int × Int)) : Int := if inL m l = true then hdK m else if inL l m = true then hdK l else 0
def mor : List (Int × Int) → Bool
  | [] => false
  | _ :: _ => true
def pairC (l m : List (Int × Int)) : List Value := [.int .i64 (pk l m), .int .i64 (pv l m), .int .i64 (pv m l), .bool (inL l m), .bool (inL m l), .bool (mor l), .bool (mor m)]
def difB (l m : List (Int × Int)) : Bool := !(inL l m) || (!(inL m l) || decide (pv l m ≠ pv m l))
def dirL (l m : List (Int × Int)) : Int :=
  if (if mor l = false then true else if mor m = false then false else if inL l m ≠ inL m l then inL l m else decide (pv l m < pv m l)) = true then -1 else 1

theorem nxt_srt {l m : List (Int × Int)} (h : Srt l) : Srt (nxt l m) := by
  unfold nxt
  split
  · cases l with
    | nil => exact h
    | cons a l => exact h.tail
  · exact h

theorem eq_vis (l m : List (Int × Int)) (h : l ≠ [] ∨ m ≠ []) : (difB l m = true → eqB l m = false) ∧ (difB l m = false → eqB (nxt l m) (nxt m l) = eqB l m) := by
  cases l with
  | nil => cases m with
    | nil => simp at h
    | cons b m => simp [difB, inL, eqB]
  | cons a l => cases m with
    | nil => simp [difB, inL, eqB]
    | cons b m =>
      obtain ⟨ak, av⟩ := a
      obtain ⟨bk, bv⟩ := b
      rcases Int.lt_trichotomy ak bk with e | e | e
      · simp [difB, inL, eqB]; omega
      · subst e
        simp [difB, inL, eqB, pv, hdV, nxt]
        refine ⟨fun h1 h2 => absurd h2 h1, fun h1 => ?_⟩
        subst h1; simp
      · simp [difB, inL, eqB]; omega

theorem sub_vis (l m : List (Int × Int)) (hl : Srt l) (hm : Srt m) (h : l ≠ [] ∨ m ≠ []) : ((!(inL l m) || !(difB l m)) = false → subB l m = false) ∧ ((!(inL l m) || !(difB l m)) = true → subB (nxt l m) (nxt m l) = subB l m) := by
  unfold subB
  cases l with
  | nil => cases m with
    | nil => simp at h
    | cons b m => simp [inL, nxt]
  | cons a l => cases m with
    | nil => exact ⟨fun _ => decide_eq_false fun hs => by have := hs a (by simp); simp at this, fun h => by simp [difB, inL] at h⟩
    | cons b m =>
      have h1 := hl.head
      have h2 := hm.head
      obtain ⟨ak, av⟩ := a
      obtain ⟨bk, bv⟩ := b
      rcases Int.lt_trichotomy ak bk with e | e | e
      · have n1 : ¬ bk ≤ ak := by omega
        simp only [difB, inL, decide_eq_true (show ak ≤ bk by omega), decide_eq_false n1]
        refine ⟨fun _ => decide_eq_false fun hs => ?_, fun h => by simp at h⟩
        rcases List.mem_cons.1 (hs (ak, av) (by simp)) with e' | e'
        · simp at e'; omega
        · have := h2 _ e'; simp at this; omega
      · subst e
        simp only [difB, inL, pv, hdV, nxt, decide_eq_true (Int.le_refl ak), if_true, List.tail_cons, Bool.not_true, Bool.false_or]
        by_cases hv : av = bv
        · subst hv
          simp only [ne_eq, not_true, decide_false, Bool.not_false]
          refine ⟨fun h => by simp at h, fun _ => ?_⟩
          refine decide_eq_decide.2 ⟨fun hs e he => ?_, fun hs e he => ?_⟩
          · rcases List.mem_cons.1 he with rfl | he
            · simp
            · exact List.mem_cons_of_mem _ (hs e he)
          · rcases List.mem_cons.1 (hs e (List.mem_cons_of_mem _ he)) with rfl | he'
            · have := h1 _ he; simp at this
            · exact he'
        · simp only [ne_eq, hv, not_false_eq_true, decide_true, Bool.not_true]
          refine ⟨fun _ => decide_eq_false fun hs => ?_, fun h => by simp at h⟩
          rcases List.mem_cons.1 (hs (ak, av) (by simp)) with e' | e'
          · simp at e'; exact hv e'
          · have := h2 _ e'; simp at this
      · have n1 : ¬ ak ≤ bk := by omega
        simp only [inL, decide_eq_false n1, nxt, decide_eq_true (show bk ≤ ak by omega), if_true, List.tail_cons]
        refine ⟨fun h => by simp at h, fun _ => ?_⟩
        simp only [Bool.false_eq_true, if_false]
        refine decide_eq_decide.2 ⟨fun hs e he => List.mem_cons_of_mem _ (hs e he), fun hs x he => ?_⟩
        rcases List.mem_cons.1 (hs x he) with rfl | he'
        · rcases List.mem_cons.1 he with e' | e'
          · simp at e'; omega
          · have := h1 _ e'; simp at this; omega
        · exact he'

theorem dis_vis (l m : List (Int × Int)) (hl : Srt l) (hm : Srt m) (h : l ≠ [] ∨ m ≠ []) : ((!(inL l m) || !(inL m l)) = false → disB l m = false) ∧ ((!(inL l m) || !(inL m l)) = true → disB (nxt l m) (nxt m l) = disB l m) := by
  unfold disB
  cases l with
  | nil => cases m with
    | nil => simp at h
    | cons b m => simp [inL, nxt]
  | cons a l => cases m with
    | nil => simp [inL, nxt]
    | cons b m =>
      have h1 := hl.head
      have h2 := hm.head
      obtain ⟨ak, av⟩ := a
      obtain ⟨bk, bv⟩ := b
      rcases Int.lt_trichotomy ak bk with e | e | e
      · have n1 : ¬ bk ≤ ak := by omega
        simp only [inL, nxt, decide_eq_true (show ak ≤ bk by omega), decide_eq_false n1, if_true, List.tail_cons]
        refine ⟨fun h => by simp at h, fun _ => ?_⟩
        simp only [Bool.false_eq_true, if_false]
        refine decide_eq_decide.2 ⟨fun hs x hx f hf => ?_, fun hs x hx f hf => hs x (List.mem_cons_of_mem _ hx) f hf⟩
        rcases List.mem_cons.1 hx with rfl | hx
        · rcases List.mem_cons.1 hf with rfl | hf
          · simp; omega
          · have := h2 _ hf; simp at this ⊢; omega
        · exact hs x hx f hf
      · subst e
        simp only [inL, decide_eq_true (Int.le_refl ak)]
        exact ⟨fun _ => decide_eq_false fun hs => hs (ak, av) (by simp) (ak, bv) (by simp) rfl, fun h => by simp at h⟩
      · have n1 : ¬ ak ≤ bk := by omega
        simp only [inL, nxt, decide_eq_true (show bk ≤ ak by omega), decide_eq_false n1, if_true, List.tail_cons]
        refine ⟨fun h => by simp at h, fun _ => ?_⟩
        simp only [Bool.false_eq_true, if_false]
        refine decide_eq_decide.2 ⟨fun hs x hx f hf => ?_, fun hs x hx f hf => hs x hx f (List.mem_cons_of_mem _ hf)⟩
        rcases List.mem_cons.1 hf with rfl | hf
        · rcases List.mem_cons.1 hx with rfl | hx
          · simp; omega
          · have := h1 _ hx; simp at this ⊢; omega
        · exact hs x hx f hf

theorem cmp_vis (l m : List (Int × Int)) (h : l ≠ [] ∨ m ≠ []) : (difB l m = true → dirL l m = cmpL l m ∧ dirL l m ≠ 0) ∧ (difB l m = false → cmpL (nxt l m) (nxt m l) = cmpL l m) := by
  have hd : dirL l m ≠ 0 := by unfold dirL; split <;> omega
  refine ⟨fun hf => ⟨?_, hd⟩, ?_⟩
  · cases l with
    | nil => cases m with
      | nil => simp at h
      | cons b m => simp [dirL, mor, cmpL]
    | cons a l => cases m with
      | nil => simp [dirL, mor, cmpL]
      | cons b m =>
        obtain ⟨ak, av⟩ := a
        obtain ⟨bk, bv⟩ := b
        rcases Int.lt_trichotomy ak bk with e | e | e
        · have n1 : ¬ bk ≤ ak := by omega
          simp [dirL, mor, inL, cmpL, e, n1, show ak ≤ bk by omega]
        · subst e
          by_cases hv : av < bv
          · simp [dirL, mor, inL, cmpL, pv, hdV, hv]
          · have hne : av ≠ bv := by
              rintro rfl
              simp [difB, inL, pv, hdV] at hf
            simp [dirL, mor, inL, cmpL, pv, hdV, hv, hne]
        · have n1 : ¬ ak ≤ bk := by omega
          have n2 : ¬ ak < bk := by omega
          have n3 : ¬ ak = bk := by omega
          simp [dirL, mor, inL, cmpL, n1, n2, n3, show bk ≤ ak by omega]
  · intro hf
    cases l with
    | nil => simp [difB, inL] at hf
    | cons a l => cases m with
      | nil => simp [difB, inL] at hf
      | cons b m =>
        obtain ⟨ak, av⟩ := a
        obtain ⟨bk, bv⟩ := b
        simp only [difB, inL, pv, hdV, Bool.or_eq_false_iff, Bool.not_eq_false', decide_eq_true_eq] at hf
        obtain ⟨f1, f2, f3⟩ := hf
        obtain rfl : ak = bk := by omega
        simp at f3
        subst f3
        simp [nxt, inL, cmpL]

theorem eq_com (s l m : List (Int × Int)) : eqB (s ++ l) (s ++ m) = eqB l m := by unfold eqB; simp
theorem sub_com {s l m : List (Int × Int)} (hl : Srt (s ++ l)) : subB (s ++ l) (s ++ m) = subB l m := by
  unfold subB
  refine decide_eq_decide.2 ⟨fun hs e he => ?_, fun hs e he => ?_⟩
  · rcases List.mem_append.1 (hs e (List.mem_append_right _ he)) with h | h
    · have := hl.app.2.2 e h e he; omega
    · exact h
  · rcases List.mem_append.1 he with h | h
    · exact List.mem_append_left _ h
    · exact List.mem_append_right _ (hs e h)
theorem dis_com {s l m : List (Int × Int)} (hs : s ≠ []) : disB (s ++ l) (s ++ m) = false := by
  unfold disB
  refine decide_eq_false fun h => ?_
  cases s with
  | nil => exact hs rfl
  | cons a s => exact h a (by simp) a (by simp) rfl
theorem cmp_com : ∀ (s l m : List (Int × Int)), cmpL (s ++ l) (s ++ m) = cmpL l m
  | [], _, _ => rfl
  | a :: s, l, m => by
    show (if a.1 < a.1 ∨ (a.1 = a.1 ∧ a.2 < a.2) then (-1 : Int) else if a = a then cmpL (s ++ l) (s ++ m) else 1) = _
    rw [if_neg (by omega), if_pos rfl]
    exact cmp_com s l m

/-! ### The order -/

theorem cmp_range : ∀ l m : List (Int × Int), cmpL l m = -1 ∨ cmpL l m = 0 ∨ cmpL l m = 1
  | [], [] => by simp [cmpL]
  | [], _ :: _ => by simp [cmpL]
  | _ :: _, [] => by simp [cmpL]
  | a :: l, b :: m => by
    unfold cmpL
    split
    · simp
    · split
      · exact cmp_range l m
      · simp
theorem cmp_neg : ∀ l m : List (Int × Int), cmpL m l = -(cmpL l m)
  | [], [] => by simp [cmpL]
  | [], _ :: _ => by simp [cmpL]
  | _ :: _, [] => by simp [cmpL]
  | (ak, av) :: l, (bk, bv) :: m => by
    have ih := cmp_neg l m
    simp only [cmpL, Prod.mk.injEq]
    by_cases h1 : ak < bk ∨ (ak = bk ∧ av < bv)
    · have h2 : ¬ (bk < ak ∨ (bk = ak ∧ bv < av)) := by omega
      have h3 : ¬ (bk = ak ∧ bv = av) := by omega
      rw [if_pos h1, if_neg h2, if_neg h3]; rfl
    · rw [if_neg h1]
      by_cases h4 : ak = bk ∧ av = bv
      · have h2 : ¬ (bk < ak ∨ (bk = ak ∧ bv < av)) := by omega
        rw [if_pos h4, if_neg h2, if_pos (by omega), ih]
      · rw [if_neg h4, if_pos (by omega)]
theorem cmp_zero : ∀ l m : List (Int × Int), cmpL l m = 0 ↔ l = m
  | [], [] => by simp [cmpL]
  | [], _ :: _ => by simp [cmpL]
  | _ :: _, [] => by simp [cmpL]
  | (ak, av) :: l, (bk, bv) :: m => by
    have ih := cmp_zero l m
    simp only [cmpL, Prod.mk.injEq, List.cons.injEq]
    by_cases h1 : ak < bk ∨ (ak = bk ∧ av < bv)
    · rw [if_pos h1]; constructor
      · intro h; omega
      · intro h; omega
    · rw [if_neg h1]
      by_cases h4 : ak = bk ∧ av = bv
      · rw [if_pos h4, ih]; exact ⟨fun h => ⟨h4, h⟩, fun h => h.2⟩
      · rw [if_neg h4]; constructor
        · intro h; omega
        · intro h; exact absurd h.1 h4
theorem cmp_trans : ∀ l m n : List (Int × Int), cmpL l m ≤ 0 → cmpL m n ≤ 0 → cmpL l n ≤ 0
  | [], _, [] => by simp [cmpL]
  | [], _, _ :: _ => by simp [cmpL]
  | _ :: _, [], _ => by simp [cmpL]
  | _ :: _, _ :: _, [] => by simp [cmpL]
  | (ak, av) :: l, (bk, bv) :: m, (ck, cv) :: n => by
    have ih := cmp_trans l m n
    simp only [cmpL, Prod.mk.injEq]
    intro h1 h2
    by_cases a1 : ak < bk ∨ (ak = bk ∧ av < bv)
    · by_cases b1 : bk < ck ∨ (bk = ck ∧ bv < cv)
      · rw [if_pos (by omega)]; omega
      · rw [if_neg b1] at h2
        by_cases b2 : bk = ck ∧ bv = cv
        · rw [if_pos (by omega)]; omega
        · rw [if_neg b2] at h2; omega
    · rw [if_neg a1] at h1
      by_cases a2 : ak = bk ∧ av = bv
      · rw [if_pos a2] at h1
        by_cases b1 : bk < ck ∨ (bk = ck ∧ bv < cv)
        · rw [if_pos (by omega)]; omega
        · rw [if_neg b1] at h2
          by_cases b2 : bk = ck ∧ bv = cv
          · rw [if_pos b2] at h2
            rw [if_neg (by omega), if_pos (by omega)]
            exact ih h1 h2
          · rw [if_neg b2] at h2; omega
      · rw [if_neg a2] at h1; omega

/-! ### Subsets -/

theorem sub_anti : ∀ {l m : List (Int × Int)}, Srt l → Srt m → (∀ e ∈ l, e ∈ m) → (∀ e ∈ m, e ∈ l) → l = m
  | [], [], _, _, _, _ => rfl
  | [], b :: m, _, _, _, h => by have := h b (by simp); simp at this
  | a :: l, [], _, _, h, _ => by have := h a (by simp); simp at this
  | a :: l, b :: m, hl, hm, h1, h2 => by
    have e : a = b := by
      rcases List.mem_cons.1 (h1 a (by simp)) with e | e
      · exact e
      · rcases List.mem_cons.1 (h2 b (by simp)) with e' | e'
        · exact e'.symm
        · have := hm.head _ e; have := hl.head _ e'; omega
    subst e
    congr 1
    refine sub_anti hl.tail hm.tail (fun x hx => ?_) (fun x hx => ?_)
    · rcases List.mem_cons.1 (h1 x (by simp [hx])) with rfl | e
      · have := hl.head _ hx; omega
      · exact e
    · rcases List.mem_cons.1 (h2 x (by simp [hx])) with rfl | e
      · have := hm.head _ hx; omega
      · exact e
theorem sub_both {l m : List (Int × Int)} (hl : Srt l) (hm : Srt m) : (subB l m && subB m l) = eqB l m := by
  unfold subB eqB
  rw [Bool.eq_iff_iff]
  simp only [Bool.and_eq_true, decide_eq_true_eq]
  exact ⟨fun ⟨a, b⟩ => sub_anti hl hm a b, by rintro rfl; exact ⟨fun _ h => h, fun _ h => h⟩⟩
theorem sub_dis {l m : List (Int × Int)} (h : subB l m = true) : disB l m = decide (l.length = 0) := by
  unfold subB at h
  unfold disB
  have h := of_decide_eq_true h
  refine decide_eq_decide.2 ⟨fun hd => ?_, fun h0 e he => ?_⟩
  · cases l with
    | nil => rfl
    | cons a l => exact absurd rfl (hd a (by simp) a (h a (by simp)))
  · rw [List.eq_nil_of_length_eq_zero h0] at he; cases he

end Go.Proofs.Yteghhalnpdikoaa
