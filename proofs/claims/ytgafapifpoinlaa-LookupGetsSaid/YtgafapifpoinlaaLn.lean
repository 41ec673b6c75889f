/-
  Where a key stands in a sorted list; its neighbors.
-/
import Derived.Test.YtgafapifpoinlaaLg
set_option linter.unusedVariables false
namespace Go.Proofs.Ytgafapifpoinlaa
open Go.Vc

theorem getE_mem {l : List (Int × Int)} {x v : Int} (h : getE l x = some v) : (x, v) ∈ l := by
  unfold getE at h
  cases hf : l.find? (fun e => decide (e.1 = x)) with
  | none => rw [hf] at h; cases h
  | some e =>
    rw [hf] at h
    obtain rfl : e.2 = v := by simpa using h
    have h1 := List.find?_some hf
    obtain rfl : e.1 = x := by simpa using h1
    exact List.mem_of_find?_eq_some hf
theorem getE_none {l : List (Int × Int)} {x : Int} (h : getE l x = none) : ∀ e ∈ l, e.1 ≠ x := by
  unfold getE at h
  have h1 : l.find? (fun e => decide (e.1 = x)) = none := by simpa using h
  intro e he
  have := List.find?_eq_none.1 h1 e he
  simpa using this

theorem split_some : ∀ {l : List (Int × Int)} {x v : Int}, Srt l → getE l x = some v → ∃ a b, l = a ++ (x, v) :: b ∧ (∀ e ∈ a, e.1 < x) ∧ (∀ e ∈ b, x < e.1)
  | [], x, v, _, h => by simp [getE] at h
  | e :: l, x, v, hs, h => by
    obtain ⟨h1, h2⟩ := List.pairwise_cons.1 hs
    by_cases hx : e.1 = x
    · have : getE (e :: l) x = some e.2 := by unfold getE; rw [List.find?_cons_of_pos (by simp [hx])]; rfl
      rw [this] at h
      obtain rfl : e.2 = v := by simpa using h
      subst hx
      exact ⟨[], l, rfl, (by intro e he; cases he), h1⟩
    · have : getE (e :: l) x = getE l x := by unfold getE; rw [List.find?_cons_of_neg (by simp [hx])]
      rw [this] at h
      have hm := h1 _ (getE_mem h)
      obtain ⟨a, b, rfl, ha, hb⟩ := split_some h2 h
      refine ⟨e :: a, b, rfl, fun u hu => ?_, hb⟩
      rcases List.mem_cons.1 hu with rfl | hu
      · exact hm
      · exact ha u hu
theorem split_none : ∀ {l : List (Int × Int)} {x : Int}, Srt l → getE l x = none → ∃ a b, l = a ++ b ∧ (∀ e ∈ a, e.1 < x) ∧ (∀ e ∈ b, x < e.1)
  | [], x, _, h => ⟨[], [], rfl, (by intro e he; cases he), (by intro e he; cases he)⟩
  | e :: l, x, hs, h => by
    obtain ⟨h1, h2⟩ := List.pairwise_cons.1 hs
    have hx := getE_none h e (by simp)
    have : getE (e :: l) x = getE l x := by unfold getE; rw [List.find?_cons_of_neg (by simp [hx])]
    rw [this] at h
    by_cases hlt : e.1 < x
    · obtain ⟨a, b, rfl, ha, hb⟩ := split_none h2 h
      refine ⟨e :: a, b, rfl, fun u hu => ?_, hb⟩
      rcases List.mem_cons.1 hu with rfl | hu
      · exact hlt
      · exact ha u hu
    · refine ⟨[], e :: l, rfl, (by intro e he; cases he), fun u hu => ?_⟩
      rcases List.mem_cons.1 hu with rfl | hu
      · omega
      · have := h1 u hu; omega

theorem flt_all {P : Int → Bool} {a : List (Int × Int)} (ha : ∀ e ∈ a, P e.1 = true) : a.filter (pK P) = a := List.filter_eq_self.2 fun e he => ha e he
theorem flt_none {P : Int → Bool} {a : List (Int × Int)} (ha : ∀ e ∈ a, P e.1 = false) : a.filter (pK P) = [] := List.filter_eq_nil_iff.2 fun e he => by unfold pK; rw [ha e he]; decide
theorem flt_l {P : Int → Bool} {a b : List (Int × Int)} (ha : ∀ e ∈ a, P e.1 = true) (hb : ∀ e ∈ b, P e.1 = false) : (a ++ b).filter (pK P) = a := by
  rw [List.filter_append, flt_all ha, flt_none hb, List.append_nil]
theorem flt_r {P : Int → Bool} {a b : List (Int × Int)} (ha : ∀ e ∈ a, P e.1 = false) (hb : ∀ e ∈ b, P e.1 = true) : (a ++ b).filter (pK P) = b := by
  rw [List.filter_append, flt_all hb, flt_none ha, List.nil_append]

/-- What the law on neighbors says of a list. -/
def nFl (l : List (Int × Int)) (x : Int) : Option (Int × Int) := (l.filter (pK fun k => decide (k ≤ x))).getLast?
def nCe (l : List (Int × Int)) (x : Int) : Option (Int × Int) := (l.filter (pK fun k => decide (x ≤ k))).head?
def nBe (l : List (Int × Int)) (x : Int) : Option (Int × Int) := (l.filter (pK fun k => decide (k < x))).getLast?
def nAb (l : List (Int × Int)) (x : Int) : Option (Int × Int) := (l.filter (pK fun k => decide (x < k))).head?

theorem above_last {a b : List (Int × Int)} {e : Int × Int} (hs : Srt (a ++ b)) (h : a.getLast? = some e) : nAb (a ++ b) e.1 = b.head? := by
  obtain ⟨a', rfl⟩ := List.getLast?_eq_some_iff.1 h
  unfold nAb
  have hp := List.pairwise_append.1 hs
  have hp2 := List.pairwise_append.1 hp.1
  rw [flt_r]
  · intro u hu
    rcases List.mem_append.1 hu with hu | hu
    · have := hp2.2.2 u hu e (by simp); simp; omega
    · simp at hu; subst hu; simp
  · intro u hu
    have := hp.2.2 e (by simp) u hu; simpa using this

theorem near_some {l : List (Int × Int)} {x v : Int} (hs : Srt l) (h : getE l x = some v) :
    nFl l x = some (x, v) ∧ nCe l x = some (x, v) ∧ (nBe l x = none → l.head? = some (x, v)) ∧ (∀ e, nBe l x = some e → e.1 < x ∧ nAb l e.1 = some (x, v)) := by
  obtain ⟨a, b, rfl, ha, hb⟩ := split_some hs h
  have hbe : nBe (a ++ (x, v) :: b) x = a.getLast? := by
    unfold nBe; rw [flt_l]
    · intro e he; have := ha e he; simpa using this
    · intro e he
      rcases List.mem_cons.1 he with rfl | he
      · simp
      · have := hb e he; simp; omega
  refine ⟨?_, ?_, fun hn => ?_, fun e he => ?_⟩
  · unfold nFl
    rw [show a ++ (x, v) :: b = (a ++ [(x, v)]) ++ b by simp, flt_l]
    · simp
    · intro e he
      rcases List.mem_append.1 he with he | he
      · have := ha e he; simp; omega
      · simp at he; subst he; simp
    · intro e he; have := hb e he; simp; omega
  · unfold nCe
    rw [flt_r]
    · rfl
    · intro e he; have := ha e he; simp; omega
    · intro e he
      rcases List.mem_cons.1 he with rfl | he
      · simp
      · have := hb e he; simp; omega
  · rw [hbe] at hn
    obtain rfl := List.getLast?_eq_none_iff.1 hn
    rfl
  · rw [hbe] at he
    refine ⟨ha e (List.mem_of_getLast? he), ?_⟩
    rw [above_last hs he]; rfl

theorem near_none {l : List (Int × Int)} {x : Int} (hs : Srt l) (h : getE l x = none) :
    (∀ e, nFl l x = some e → e.1 < x) ∧ (∀ e, nCe l x = some e → x < e.1) ∧ (∀ e, nFl l x = some e → nAb l e.1 = nCe l x) ∧ (nFl l x = none → nCe l x = none → l = []) := by
  obtain ⟨a, b, rfl, ha, hb⟩ := split_none hs h
  have hfl : nFl (a ++ b) x = a.getLast? := by
    unfold nFl; rw [flt_l]
    · intro e he; have := ha e he; simp; omega
    · intro e he; have := hb e he; simp; omega
  have hce : nCe (a ++ b) x = b.head? := by
    unfold nCe; rw [flt_r]
    · intro e he; have := ha e he; simp; omega
    · intro e he; have := hb e he; simp; omega
  rw [hfl, hce]
  refine ⟨fun e he => ha e (List.mem_of_getLast? he), fun e he => hb e (List.mem_of_head? he), fun e he => above_last hs he, fun h1 h2 => ?_⟩
  obtain rfl := List.getLast?_eq_none_iff.1 h1
  obtain rfl := List.head?_eq_none_iff.1 h2
  rfl

end Go.Proofs.Ytgafapifpoinlaa
