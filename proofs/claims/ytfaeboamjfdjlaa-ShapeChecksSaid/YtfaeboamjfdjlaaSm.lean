/-
  Summaries of lists of values; the nodes of a tree hold the summaries of their subtrees. No program in sight.
-/
import Derived.Test.YtfaeboamjfdjlaaTr
set_option linter.unusedVariables false
namespace Go.Proofs.Ytfaeboamjfdjlaa
open Go.Vc

theorem w64_mod (z : Int) : ∃ k : Int, w64 z = z + 18446744073709551616 * k := by
  refine ⟨(w64 z - z) / 18446744073709551616, ?_⟩
  unfold w64
  simp [IntKind.wrap, IntKind.bits, IntKind.signed]
  omega
theorem w64_eq {a b k : Int} (h : a = b + 18446744073709551616 * k) : w64 a = w64 b := by
  obtain ⟨x, hx⟩ := w64_mod a
  obtain ⟨y, hy⟩ := w64_mod b
  have := w64_bd a
  have := w64_bd b
  omega
theorem w64_add (a b : Int) : w64 (w64 a + w64 b) = w64 (a + b) := by
  obtain ⟨x, hx⟩ := w64_mod a
  obtain ⟨y, hy⟩ := w64_mod b
  exact w64_eq (k := x + y) (by omega)
theorem w64_addl (a b : Int) : w64 (w64 a + b) = w64 (a + b) := by
  obtain ⟨x, hx⟩ := w64_mod a
  exact w64_eq (k := x) (by omega)
theorem w64_addr (a b : Int) : w64 (a + w64 b) = w64 (a + b) := by
  obtain ⟨x, hx⟩ := w64_mod b
  exact w64_eq (k := x) (by omega)

def InV (v : Int) : Prop := -9223372036854775808 ≤ v ∧ v ≤ 9223372036854775807

structure Sm where
  (n s mn mx : Int)
def Sm.zero : Sm := ⟨0, 0, 0, 0⟩
def Sm.one (v : Int) : Sm := ⟨1, v, v, v⟩
def Sm.add (x y : Sm) : Sm := if x.n = 0 then y else if y.n = 0 then x else ⟨x.n + y.n, w64 (x.s + y.s), min x.mn y.mn, max x.mx y.mx⟩
def Sm.cells (x : Sm) : List Value := [.int .i64 x.n, .int .i64 x.s, .int .i64 x.mn, .int .i64 x.mx]
/-- A summary whose sum is a number of 64 bits, and which is zero if it counts nothing. -/
structure Sm.ok (x : Sm) : Prop where
  n0 : 0 ≤ x.n
  s : InV x.s
  z : x.n = 0 → x = Sm.zero
theorem Sm.ext' {x y : Sm} (h1 : x.n = y.n) (h2 : x.s = y.s) (h3 : x.mn = y.mn) (h4 : x.mx = y.mx) : x = y := by cases x; cases y; simp_all

theorem Sm.zero_ok : Sm.zero.ok := ⟨by decide, ⟨by decide, by decide⟩, fun _ => rfl⟩
theorem Sm.one_ok {v : Int} (h : InV v) : (Sm.one v).ok := ⟨by simp [Sm.one], h, fun h => by simp [Sm.one] at h⟩
theorem Sm.add_ok {x y : Sm} (hx : x.ok) (hy : y.ok) : (x.add y).ok := by
  have := hx.n0
  have := hy.n0
  unfold Sm.add
  split
  · exact hy
  · split
    · exact hx
    · exact ⟨by simp only; omega, w64_bd _, fun h => by simp only at h; omega⟩
theorem Sm.add_pos {x y : Sm} (h1 : x.n ≠ 0) (h2 : y.n ≠ 0) : x.add y = ⟨x.n + y.n, w64 (x.s + y.s), min x.mn y.mn, max x.mx y.mx⟩ := by unfold Sm.add; rw [if_neg h1, if_neg h2]
theorem Sm.zero_add (x : Sm) : Sm.zero.add x = x := by unfold Sm.add; rw [if_pos (show Sm.zero.n = 0 from rfl)]
theorem Sm.add_zero {x : Sm} (h : x.ok) : x.add Sm.zero = x := by
  unfold Sm.add
  split
  · exact (h.z (by assumption)).symm
  · rw [if_pos (show Sm.zero.n = 0 from rfl)]
theorem Sm.add_comm {x y : Sm} (hx : x.ok) (hy : y.ok) : x.add y = y.add x := by
  by_cases e1 : x.n = 0
  · rw [hx.z e1, Sm.zero_add, Sm.add_zero hy]
  · by_cases e2 : y.n = 0
    · rw [hy.z e2, Sm.zero_add, Sm.add_zero hx]
    · unfold Sm.add
      rw [if_neg e1, if_neg e2, if_neg e2, if_neg e1]
      exact Sm.ext' (Int.add_comm _ _) (by simp only [Int.add_comm]) (Int.min_comm _ _) (Int.max_comm _ _)
theorem Sm.add_assoc {x y z : Sm} (hx : x.ok) (hy : y.ok) (hz : z.ok) : (x.add y).add z = x.add (y.add z) := by
  by_cases e1 : x.n = 0
  · rw [hx.z e1, Sm.zero_add, Sm.zero_add]
  by_cases e2 : y.n = 0
  · rw [hy.z e2, Sm.zero_add, Sm.add_zero hx]
  by_cases e3 : z.n = 0
  · rw [hz.z e3, Sm.add_zero (Sm.add_ok hx hy), Sm.add_zero hy]
  have := hx.n0
  have := hy.n0
  have := hz.n0
  have e4 : (x.add y) = ⟨x.n + y.n, w64 (x.s + y.s), min x.mn y.mn, max x.mx y.mx⟩ := by unfold Sm.add; rw [if_neg e1, if_neg e2]
  have e5 : (y.add z) = ⟨y.n + z.n, w64 (y.s + z.s), min y.mn z.mn, max y.mx z.mx⟩ := by unfold Sm.add; rw [if_neg e2, if_neg e3]
  rw [e4, e5]
  unfold Sm.add
  simp only
  rw [if_neg (by omega), if_neg e3, if_neg e1, if_neg (by omega), w64_addl, w64_addr]
  exact Sm.ext' (Int.add_assoc _ _ _) (by simp only [Int.add_assoc]) (Int.min_assoc _ _ _) (Int.max_assoc _ _ _)

/-- The summary of a list of values. -/
def smy : List Int → Sm
  | [] => Sm.zero
  | v :: l => (Sm.one v).add (smy l)

theorem smy_ok : ∀ {l : List Int}, (∀ v ∈ l, InV v) → (smy l).ok
  | [], _ => Sm.zero_ok
  | v :: l, h => Sm.add_ok (Sm.one_ok (h v (by simp))) (smy_ok fun u hu => h u (by simp [hu]))
theorem smy_one {v : Int} (h : InV v) : smy [v] = Sm.one v := Sm.add_zero (Sm.one_ok h)
theorem smy_append : ∀ {l m : List Int}, (∀ v ∈ l, InV v) → (∀ v ∈ m, InV v) → smy (l ++ m) = (smy l).add (smy m)
  | [], m, _, _ => (Sm.zero_add _).symm
  | v :: l, m, h, hm => by
    have hl : ∀ u ∈ l, InV u := fun u hu => h u (by simp [hu])
    show (Sm.one v).add (smy (l ++ m)) = _
    rw [smy_append hl hm, ← Sm.add_assoc (Sm.one_ok (h v (by simp))) (smy_ok hl) (smy_ok hm)]; rfl
theorem smy_n : ∀ l : List Int, (smy l).n = (l.length : Int)
  | [] => rfl
  | v :: l => by
    have ih := smy_n l
    show ((Sm.one v).add (smy l)).n = _
    unfold Sm.add
    rw [if_neg (by simp [Sm.one])]
    split
    · rename_i e; rw [ih] at e; simp [Sm.one]; omega
    · simp only [Sm.one]; rw [ih]; simp; omega

/-! ### Nodes -/

def ndS (n : Nd) : Sm := ⟨n.size, n.sum, n.mn, n.mx⟩
def smAt (A : AR) (c : Nat) : Sm := if c = 0 then Sm.zero else ndS (A.node c)
def Tr.vals (t : Tr) : List Int := t.ents.map (·.2)

theorem addC_sm {A : AR} {c : Nat} {n : Nd} (h1 : 1 ≤ n.size) (h2 : n.size + (smAt A c).n ≤ 9223372036854775807) (h3 : c = 0 ∨ 1 ≤ (smAt A c).n) : ndS (addC A c n) = (ndS n).add (smAt A c) := by
  by_cases e : c = 0
  · subst e
    show ndS n = (ndS n).add Sm.zero
    unfold Sm.add
    rw [if_neg (show ¬ (ndS n).n = 0 by show ¬ n.size = 0; omega), if_pos (show Sm.zero.n = 0 from rfl)]
  · have e1 : smAt A c = ndS (A.node c) := if_neg e
    rw [e1] at h2 h3 ⊢
    have h3 : 1 ≤ (A.node c).size := h3.resolve_left e
    have h2 : n.size + (A.node c).size ≤ 9223372036854775807 := h2
    rw [Sm.add_pos (show n.size ≠ 0 by omega) (show (A.node c).size ≠ 0 by omega)]
    unfold addC
    rw [if_neg e]
    refine Sm.ext' ?_ rfl rfl rfl
    show w64 (n.size + (A.node c).size) = n.size + (A.node c).size
    exact w64_in (by omega)

theorem InA.sm {A : AR} : ∀ {t : Tr}, InA A t → (∀ v ∈ t.vals, InV v) → t.sz ≤ 2147483647 → smAt A t.root = smy t.vals
  | .nil, _, _, _ => rfl
  | .nd i l k v r, h, hv, hs => by
    have e : (Tr.nd i l k v r).sz = l.sz + 1 + r.sz := rfl
    have ev : (Tr.nd i l k v r).vals = l.vals ++ v :: r.vals := by simp [Tr.vals, Tr.ents]
    rw [e] at hs
    rw [ev] at hv ⊢
    have hvl : ∀ u ∈ l.vals, InV u := fun u hu => hv u (by simp [hu])
    have hvr : ∀ u ∈ r.vals, InV u := fun u hu => hv u (by simp [hu])
    have hv0 : InV v := hv v (by simp)
    have e1 := InA.sm h.2.2.2.1 hvl (by omega)
    have e2 := InA.sm h.2.2.2.2 hvr (by omega)
    have n1 : (smy l.vals).n = (l.sz : Int) := by rw [smy_n, ← l.len]; simp [Tr.vals]
    have n2 : (smy r.vals).n = (r.sz : Int) := by rw [smy_n, ← r.len]; simp [Tr.vals]
    have p1 : l.root = 0 ∨ 1 ≤ (smAt A l.root).n := by
      rw [e1, n1]
      cases l with
      | nil => exact Or.inl rfl
      | nd => right; simp [Tr.sz]; omega
    have p2 : r.root = 0 ∨ 1 ≤ (smAt A r.root).n := by
      rw [e2, n2]
      cases r with
      | nil => exact Or.inl rfl
      | nd => right; simp [Tr.sz]; omega
    show smAt A i = _
    unfold smAt
    rw [if_neg (by have := h.1; omega), h.2.2.1]
    unfold mkN
    have a1 := addC_sm (A := A) (c := l.root) (n := ⟨k, v, l.root, r.root, 1, v, v, v⟩) (by simp) (by rw [e1, n1]; simp only; omega) p1
    have s1 : (addC A l.root ⟨k, v, l.root, r.root, 1, v, v, v⟩).size = 1 + (l.sz : Int) := by
      have : (ndS (addC A l.root ⟨k, v, l.root, r.root, 1, v, v, v⟩)).n = 1 + (l.sz : Int) := by
        rw [a1, e1]
        unfold Sm.add
        rw [if_neg (by simp [ndS])]
        split
        · rename_i h0; rw [n1] at h0; simp only [ndS]; omega
        · simp only [ndS, n1]
      exact this
    rw [addC_sm (A := A) (c := r.root) (by omega) (by rw [s1, e2, n2]; omega) p2, a1, e1, e2]
    show ((Sm.one v).add (smy l.vals)).add (smy r.vals) = _
    rw [show l.vals ++ v :: r.vals = l.vals ++ ([v] ++ r.vals) by simp, smy_append hvl (by simpa using ⟨hv0, hvr⟩), smy_append (by simpa using hv0) hvr, smy_one hv0,
      Sm.add_comm (Sm.one_ok hv0) (smy_ok hvl), Sm.add_assoc (smy_ok hvl) (Sm.one_ok hv0) (smy_ok hvr)]

end Go.Proofs.Ytfaeboamjfdjlaa
