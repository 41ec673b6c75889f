/-
  Trees in order; the heights of balanced trees; readings. No program in sight.
-/
import Derived.Test.YtfaeboamjfdjlaaSm
import Derived.Test.YtfaeboamjfdjlaaWt
set_option linter.unusedVariables false
namespace Go.Proofs.Ytfaeboamjfdjlaa
open Go.Vc

/-- The keys ascend. -/
def Srt (l : List (Int × Int)) : Prop := l.Pairwise (fun a b => a.1 < b.1)

theorem Srt.nd {i : Nat} {l r : Tr} {k v : Int} (h : Srt (Tr.nd i l k v r).ents) : Srt l.ents ∧ Srt r.ents ∧ (∀ e ∈ l.ents, e.1 < k) ∧ (∀ e ∈ r.ents, k < e.1) := by
  have h' := List.pairwise_append.1 (show List.Pairwise _ (l.ents ++ (k, v) :: r.ents) from h)
  have h2 := List.pairwise_cons.1 h'.2.1
  exact ⟨h'.1, h2.2, fun e he => h'.2.2 e he (k, v) (by simp), fun e he => h2.1 e he⟩

/-- The entries are numbers of 64 bits. -/
def InE (l : List (Int × Int)) : Prop := ∀ e ∈ l, InV e.1 ∧ InV e.2
theorem InE.nd {i : Nat} {l r : Tr} {k v : Int} (h : InE (Tr.nd i l k v r).ents) : InE l.ents ∧ InE r.ents ∧ InV k ∧ InV v := by
  have e : (Tr.nd i l k v r).ents = l.ents ++ (k, v) :: r.ents := rfl
  rw [e] at h
  exact ⟨fun e he => h e (by simp [he]), fun e he => h e (by simp [he]), h (k, v) (by simp)⟩
theorem InE.vals {t : Tr} (h : InE t.ents) : ∀ v ∈ t.vals, InV v := fun v hv => by
  obtain ⟨e, he, rfl⟩ := List.mem_map.1 hv
  exact (h e he).2

/-! ### Heights -/

theorem Tr.wt_le {t : Tr} (h : t.bal) : wt t.ht ≤ (t.sz : Int) + 1 := by
  induction t with
  | nil => simp [Tr.ht, Tr.sz, wt]
  | nd i l k v r hl hr =>
    obtain ⟨hb, h1, h2⟩ := h
    have hl := hl h1
    have hr := hr h2
    unfold balN at hb
    show wt (1 + max l.ht r.ht) ≤ ((l.sz + 1 + r.sz : Nat) : Int) + 1
    rw [Nat.add_comm 1]
    simp only [wt]
    rcases Nat.le_total l.ht r.ht with e | e
    · rw [Nat.max_eq_right e]; omega
    · rw [Nat.max_eq_left e]; omega

/-! ### Readings -/

/-- 'B' is 'A' behind at most 'n' reads. -/
structure Rds (A B : AR) (n : Nat) : Prop where
  eq : B = { A with reads := B.reads }
  le : A.reads + n < 18446744073709551616 → A.reads ≤ B.reads ∧ B.reads ≤ A.reads + n

theorem Rds.refl (A : AR) (n : Nat) : Rds A A n := ⟨rfl, fun _ => ⟨Nat.le_refl _, by omega⟩⟩
theorem Rds.read (A : AR) (i : Nat) : Rds A (A.read i) 1 := by
  unfold AR.read
  split
  · refine ⟨rfl, fun h => ?_⟩
    simp only
    omega
  · exact Rds.refl A 1
theorem Rds.trans {A B C : AR} {n m : Nat} (h : Rds A B n) (h' : Rds B C m) : Rds A C (n + m) := by
  refine ⟨by rw [h'.eq, h.eq], fun hl => ?_⟩
  have a := h.le (by omega)
  have b := h'.le (by omega)
  omega
theorem Rds.mono {A B : AR} {n m : Nat} (h : Rds A B n) (hm : n ≤ m) : Rds A B m := ⟨h.eq, fun hl => by have := h.le (by omega); omega⟩
theorem Rds.used {A B : AR} {n : Nat} (h : Rds A B n) : B.used = A.used := by rw [h.eq]
theorem Rds.node {A B : AR} {n : Nat} (h : Rds A B n) : B.node = A.node := by rw [h.eq]
theorem Rds.inA {A B : AR} {n : Nat} (h : Rds A B n) {t : Tr} (ht : InA A t) : InA B t := ht.keep fun i hi => by rw [h.used, h.node]; exact ⟨hi, rfl⟩
theorem Rds.nodeOf {A B : AR} {n : Nat} (h : Rds A B n) (i : Nat) : B.nodeOf i = A.nodeOf i := by unfold AR.nodeOf; rw [h.used, h.node]
theorem Rds.sizeOf {A B : AR} {n : Nat} (h : Rds A B n) (i : Nat) : B.sizeOf i = A.sizeOf i := by unfold AR.sizeOf; rw [h.used, h.node]

/-- The node at the root. -/
theorem InA.nodeOf {A : AR} {i : Nat} {l r : Tr} {k v : Int} (h : InA A (.nd i l k v r)) : A.nodeOf i = mkN A k v l.root r.root := by
  unfold AR.nodeOf; rw [if_pos h.2.1, h.2.2.1]
theorem mkN_lr (A : AR) (k v : Int) (l r : Nat) : (mkN A k v l r).key = k ∧ (mkN A k v l r).val = v ∧ (mkN A k v l r).left = l ∧ (mkN A k v l r).right = r := by
  unfold mkN
  obtain ⟨a, b, c, d⟩ := addC_lr A r (addC A l ⟨k, v, l, r, 1, v, v, v⟩)
  obtain ⟨a', b', c', d'⟩ := addC_lr A l ⟨k, v, l, r, 1, v, v, v⟩
  rw [a, b, c, d, a', b', c', d']
  exact ⟨rfl, rfl, rfl, rfl⟩

/-! ### Summaries of parts -/

def smF (p : Int × Int → Bool) (l : List (Int × Int)) : Sm := smy ((l.filter p).map (·.2))

theorem smF_ok {p : Int × Int → Bool} {l : List (Int × Int)} (h : InE l) : (smF p l).ok := smy_ok fun v hv => by
  obtain ⟨e, he, rfl⟩ := List.mem_map.1 hv
  exact (h e (List.mem_filter.1 he).1).2

theorem smF_append {p : Int × Int → Bool} {l m : List (Int × Int)} (h : InE l) (hm : InE m) : smF p (l ++ m) = (smF p l).add (smF p m) := by
  unfold smF
  rw [List.filter_append, List.map_append, smy_append]
  · intro v hv
    obtain ⟨e, he, rfl⟩ := List.mem_map.1 hv
    exact (h e (List.mem_filter.1 he).1).2
  · intro v hv
    obtain ⟨e, he, rfl⟩ := List.mem_map.1 hv
    exact (hm e (List.mem_filter.1 he).1).2
theorem smF_one {p : Int × Int → Bool} {k v : Int} (hv : InV v) : smF p [(k, v)] = if p (k, v) = true then Sm.one v else Sm.zero := by
  unfold smF
  by_cases e : p (k, v) = true
  · simp [e]; exact smy_one hv
  · simp [e]; rfl
theorem smF_all {p : Int × Int → Bool} {l : List (Int × Int)} (h : ∀ e ∈ l, p e = true) : smF p l = smy (l.map (·.2)) := by
  unfold smF; rw [List.filter_eq_self.2 h]
theorem smF_none {p : Int × Int → Bool} {l : List (Int × Int)} (h : ∀ e ∈ l, p e = false) : smF p l = Sm.zero := by
  unfold smF
  rw [List.filter_eq_nil_iff.2 (fun e he => by rw [h e he]; decide)]; rfl
theorem smF_congr {p q : Int × Int → Bool} {l : List (Int × Int)} (h : ∀ e ∈ l, p e = q e) : smF p l = smF q l := by
  unfold smF; rw [List.filter_congr h]
theorem smF_nd {p : Int × Int → Bool} {i : Nat} {l r : Tr} {k v : Int} (h : InE (Tr.nd i l k v r).ents) : smF p (Tr.nd i l k v r).ents = (smF p l.ents).add ((if p (k, v) = true then Sm.one v else Sm.zero).add (smF p r.ents)) := by
  obtain ⟨h1, h2, h3, h4⟩ := h.nd
  have e : (Tr.nd i l k v r).ents = l.ents ++ ([(k, v)] ++ r.ents) := rfl
  have h5 : InE [(k, v)] := fun e he => by simp at he; subst he; exact ⟨h3, h4⟩
  rw [e, smF_append h1 (fun e he => by rcases List.mem_append.1 he with he | he; · exact h5 e he
                                       · exact h2 e he), smF_append h5 h2, smF_one h4]

end Go.Proofs.Ytfaeboamjfdjlaa
