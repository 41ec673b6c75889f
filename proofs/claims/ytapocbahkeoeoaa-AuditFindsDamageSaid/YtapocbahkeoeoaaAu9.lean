/-
  A damaged dump has a finding, and so has a dump with a reference left out. No program in sight.
-/
import Derived.Test.YtapocbahkeoeoaaAu8
set_option linter.unusedVariables false
set_option linter.unusedSectionVars false
namespace Go.Vc
theorem flatMap_set {α : Type} {enc : α → List Value} {m : Nat} (hm : ∀ x, (enc x).length = m) : ∀ {xs : List α} {i off : Nat} {u : Value} {x' : α} (hi : i < xs.length), off < m → enc x' = (enc xs[i]).set off u → (xs.flatMap enc).set (i * m + off) u = (xs.set i x').flatMap enc
  | [], i, _, _, _, hi, _, _ => by simp at hi
  | y :: xs, 0, off, u, x', hi, ho, he => by
    simp only [List.getElem_cons_zero] at he
    rw [List.set_cons_zero, List.flatMap_cons, List.flatMap_cons, he, Nat.zero_mul, Nat.zero_add, List.set_append_left _ _ (by rw [hm]; exact ho)]
  | y :: xs, i + 1, off, u, x', hi, ho, he => by
    have ih := flatMap_set hm (xs := xs) (i := i) (off := off) (u := u) (x' := x') (by simpa using hi) ho (by simpa using he)
    rw [List.set_cons_succ, List.flatMap_cons, List.flatMap_cons, List.set_append_right _ _ (by rw [hm, Nat.succ_mul]; omega), hm, show (i + 1) * m + off - m = i * m + off by rw [Nat.succ_mul]; omega, ih]

theorem Own.blockM {w : World} {lo : Nat} {e : TypeId} {m : Nat} {v : Value} {n : Nat} {xs : List Value} (h : Own w lo e m v n xs) (hn : 0 < n) :
    ∃ g cap C, v = .slice (some ⟨g, 0, none⟩) n cap ∧ lo ≤ g ∧ At w g (xs ++ C) e ∧ n ≤ cap ∧ xs.length = n * m := by
  rcases h.2 with ⟨_, h0⟩ | ⟨g, cap, cur, hv, hg, hh, hn', hc, hs, ht⟩
  · omega
  · refine ⟨g, cap, cur.toList.drop (n * m), hv, hg, ⟨?_⟩, hn', h.1⟩
    rw [← ht, List.take_append_drop]
    simpa using hh

theorem At.rdP {α : Type} {w : World} {lo b n cap : Nat} {T : TypeId} {enc : α → List Value} {xs : List α} {C : List Value} (h : At w b (xs.flatMap enc ++ C) T) (hn : n = xs.length) (hc : n ≤ cap) (hlo : lo ≤ b) : Rd w lo (.slice (some ⟨b, 0, none⟩) n cap) enc xs := by
  subst hn
  refine ⟨_, _, rfl, hc, fun j u hj => ⟨b, 0, rfl, ?_⟩, fun b' o e _ => ?_⟩
  · rw [Nat.zero_add]
    exact h.cell (by rw [List.getElem?_append_left (List.getElem?_eq_some_iff.1 hj).1]; exact hj)
  · simp only [Option.some.injEq, Addr.mk.injEq] at e
    obtain ⟨rfl, _⟩ := e
    exact ⟨hlo, h.lt⟩
end Go.Vc
namespace Go.Proofs.Ytapocbahkeoeoaa
open Go.Vc

theorem finds_at {D : Dp} {roots : List Nat} {P : Nat → Bool} {k : Nat} {s : Slt} (hk : D.slots[k]? = some s) {f : Fd} (h : f ∈ fdSlot D roots P k s) : f ∈ finds D roots P := by
  have hkl := (List.getElem?_eq_some_iff.1 hk).1
  unfold finds fdSlots
  refine List.mem_append_left _ (List.mem_append_left _ (List.mem_flatMap.2 ⟨k, List.mem_range.2 hkl, ?_⟩))
  rw [hk]; exact h
theorem finds_ne {D : Dp} {roots : List Nat} {P : Nat → Bool} {k : Nat} {s : Slt} (hk : D.slots[k]? = some s) {f : Fd} (h : f ∈ fdSlot D roots P k s) : 0 < (finds D roots P).length :=
  List.length_pos_iff.2 (List.ne_nil_of_mem (finds_at hk h))
theorem rep_mem {kind : Int} {i : Nat} {a b : Int} (h : a ≠ b) : (⟨kind, i, a, b⟩ : Fd) ∈ repF kind i a b := by unfold repF; rw [if_neg h]; simp
theorem free_mem {D : Dp} {roots : List Nat} {P : Nat → Bool} {k : Nat} {s : Slt} (h : (if s.on = true then (0 : Int) else 1) ≠ (D.free.count (k + 1) : Int)) : ∃ f, f ∈ fdSlot D roots P k s := by
  refine ⟨⟨1, k + 1, if s.on = true then 0 else 1, (D.free.count (k + 1) : Int)⟩, ?_⟩
  unfold fdSlot
  rw [fdFree_rep]
  exact List.mem_append_left _ (List.mem_append_left _ (List.mem_append_left _ (rep_mem h)))
theorem cnt_mem {D : Dp} {roots : List Nat} {P : Nat → Bool} {k : Nat} {s : Slt} (h : wantC D roots k s ≠ s.cnt) : (⟨4, k + 1, wantC D roots k s, s.cnt⟩ : Fd) ∈ fdSlot D roots P k s := by
  unfold fdSlot
  rw [fdCnt_rep]
  exact List.mem_append_left _ (List.mem_append_right _ (rep_mem h))
theorem size_mem {D : Dp} {roots : List Nat} {P : Nat → Bool} {k : Nat} {s : Slt} (hon : s.on = true) (h : szK D s 2 ≠ s.nd.size) : ∃ f, f ∈ fdSlot D roots P k s := by
  refine ⟨⟨3, k + 1, szK D s 2, s.nd.size⟩, ?_⟩
  unfold fdSlot
  refine List.mem_append_left _ (List.mem_append_left _ (List.mem_append_right _ ?_))
  unfold fdMid
  rw [if_pos hon]
  exact List.mem_append_right _ (by rw [fdSize_rep]; exact rep_mem h)

def Slt.wc (x : Slt) (c : Int) : Slt := ⟨x.on, c, x.gen, x.nd⟩
def Slt.ws (x : Slt) (z : Int) : Slt := ⟨x.on, x.cnt, x.gen, ⟨x.nd.key, x.nd.val, x.nd.left, x.nd.right, z, x.nd.sum, x.nd.mn, x.nd.mx⟩⟩
def Slt.wo (x : Slt) : Slt := ⟨!x.on, x.cnt, x.gen, x.nd⟩
def Dp.setS (D : Dp) (i : Nat) (s : Slt) : Dp := ⟨D.slots.set i s, D.free⟩

theorem kdsF_set {l : List Slt} {i : Nat} {s s' : Slt} (hi : l[i]? = some s) (h1 : s'.on = s.on) (h2 : s'.nd.left = s.nd.left ∧ s'.nd.right = s.nd.right) : kdsF (l.set i s') = kdsF l := by
  unfold kdsF
  rw [List.flatMap_def, List.flatMap_def, List.map_set]
  congr 1
  refine List.ext_getElem? fun j => ?_
  rw [List.getElem?_set]
  split
  · rename_i e
    subst e
    rw [List.getElem?_map, hi]
    have hil := (List.getElem?_eq_some_iff.1 hi).1
    rw [List.length_map, if_pos hil]
    simp [h1, Slt.kd, h2.1, h2.2]
  · rfl
theorem al_set {D : Dp} {i : Nat} {s s' : Slt} (hi : D.slots[i]? = some s) (h1 : s'.on = s.on) (c : Nat) : (D.setS i s').al c = D.al c := by
  cases c with
  | zero => rfl
  | succ j =>
    have hil := (List.getElem?_eq_some_iff.1 hi).1
    simp only [Dp.al, Dp.setS, List.getElem?_set]
    by_cases e : i = j
    · subst e; rw [if_pos rfl, if_pos hil, hi]; exact h1
    · rw [if_neg e]
theorem szAt_set {D : Dp} {i : Nat} {s' : Slt} (c : Nat) (hc : c ≠ i + 1) : (D.setS i s').szAt c = D.szAt c := by
  cases c with
  | zero => rfl
  | succ j =>
    simp only [Dp.szAt, Dp.setS, List.getElem?_set]
    rw [if_neg (by omega)]

theorem want_ok {A : AR} {h : Nat → Nat} (s : Sound A h) {roots : List Nat} (hr : ∀ i, 1 ≤ i → roots.count i = h i) (k : Nat) : wantC A.dump roots k (A.slt (k + 1)) = A.countOf (k + 1) := by
  unfold wantC
  show (if A.used (k + 1) = true then _ else (0 : Int)) = _
  unfold AR.countOf
  cases hu : A.used (k + 1) with
  | false => rfl
  | true => rw [if_pos rfl, if_pos rfl, kds_edges s.wf, hr (k + 1) (by omega), s.cnt _ hu]; simp
theorem countOf_bd {A : AR} {h : Nat → Nat} (s : Sound A h) (k : Nat) (hb : h k ≤ 1000000) : 0 ≤ A.countOf k ∧ A.countOf k ≤ 2000000 := by
  unfold AR.countOf
  split
  · rename_i hu
    have := edges_le s.wf k
    rw [s.cnt _ hu]; omega
  · omega

section
variable {A : AR} {h : Nat → Nat} (s : Sound A h) {roots : List Nat} (hr : ∀ i, 1 ≤ i → roots.count i = h i) (hb : ∀ i, h i ≤ 1000000) {i : Nat} (hi : i < A.cap)
include s hr hb hi

theorem dmg_count {b : Int} (hb1 : 1 ≤ b) (hb2 : b ≤ 1000) (P : Nat → Bool) : 0 < (finds (A.dump.setS i ((A.slt (i + 1)).wc (w64 ((A.slt (i + 1)).cnt + b)))) roots P).length := by
  have hg := dump_get hi
  have hl := (List.getElem?_eq_some_iff.1 hg).1
  have hk : (A.dump.setS i ((A.slt (i + 1)).wc (w64 ((A.slt (i + 1)).cnt + b)))).slots[i]? = some ((A.slt (i + 1)).wc (w64 ((A.slt (i + 1)).cnt + b))) := by
    simp [Dp.setS, hl]
  refine finds_ne hk (cnt_mem ?_)
  have e : wantC (A.dump.setS i ((A.slt (i + 1)).wc (w64 ((A.slt (i + 1)).cnt + b)))) roots i ((A.slt (i + 1)).wc (w64 ((A.slt (i + 1)).cnt + b))) = wantC A.dump roots i (A.slt (i + 1)) := by
    unfold wantC
    show (if (A.slt (i + 1)).on = true then ((kdsF (A.dump.slots.set i _)).count (i + 1) : Int) + _ else 0) = _
    rw [kdsF_set (s' := (A.slt (i + 1)).wc (w64 ((A.slt (i + 1)).cnt + b))) hg rfl ⟨rfl, rfl⟩]
  rw [e, want_ok s hr]
  have hbd := countOf_bd s (i + 1) (hb _)
  show A.countOf (i + 1) ≠ w64 (A.countOf (i + 1) + b)
  rw [w64_in (by omega)]; omega

theorem dmg_size {b : Int} (hb1 : 1 ≤ b) (hb2 : b ≤ 1000) (hu : A.used (i + 1) = true) (P : Nat → Bool) : 0 < (finds (A.dump.setS i ((A.slt (i + 1)).ws (w64 ((A.slt (i + 1)).nd.size + b)))) roots P).length := by
  have hg := dump_get hi
  have hl := (List.getElem?_eq_some_iff.1 hg).1
  generalize hs' : (A.slt (i + 1)).ws (w64 ((A.slt (i + 1)).nd.size + b)) = s'
  have hk : (A.dump.setS i s').slots[i]? = some s' := by simp [Dp.setS, hl]
  have hon : s'.on = (A.slt (i + 1)).on := by rw [← hs']; rfl
  have hon1 : s'.on = true := by rw [hon]; exact hu
  have hkd : s'.kd = [(A.node (i + 1)).left, (A.node (i + 1)).right] := by rw [← hs']; rfl
  obtain ⟨f, hf⟩ := size_mem (D := A.dump.setS i s') (roots := roots) (P := P) (k := i) (s := s') hon1 (by
    obtain ⟨kl, kr⟩ := s.kid (i + 1) hu
    have hbig := s.big hu
    have b1 := szOf_bd s _ kl
    have b2 := szOf_bd s _ kr
    have bi := s.ok.sz (i + 1) hu
    have hszA : ∀ z c, (c = 0 ∨ A.used c = true) → (c ≠ 0 → (A.node c).size < (A.node (i + 1)).size) → szAdd (A.dump.setS i s') z c = if c = 0 then z else w64 (z + (A.node c).size) := fun z c hc hlt => by
      unfold szAdd
      rw [al_set hg hon, dump_al s.wf]
      rcases hc with e | e
      · subst e; rw [s.wf.u0]; rfl
      · have hc2 := used_le s.wf e
        have hne : c ≠ i + 1 := fun e2 => by have := hlt (by omega); rw [e2] at this; omega
        rw [e, if_pos rfl, if_neg (by omega), szAt_set c hne, dump_szAt hc2.1 hc2.2]
    have hlt1 : (A.node (i + 1)).left ≠ 0 → (A.node (A.node (i + 1)).left).size < (A.node (i + 1)).size := fun h0 => by
      rw [if_neg h0] at hbig; omega
    have hlt2 : (A.node (i + 1)).right ≠ 0 → (A.node (A.node (i + 1)).right).size < (A.node (i + 1)).size := fun h0 => by
      rw [if_neg (c := (A.node (i + 1)).right = 0) h0] at hbig; omega
    have hS : szK (A.dump.setS i s') s' 2 = (A.node (i + 1)).size := by
      unfold szK
      rw [hkd]
      show szAdd _ (szAdd _ 1 (A.node (i + 1)).left) (A.node (i + 1)).right = _
      rw [hszA _ _ kl hlt1, hszA _ _ kr hlt2, hbig]
      by_cases e1 : (A.node (i + 1)).left = 0
      · by_cases e2 : (A.node (i + 1)).right = 0
        · simp [e1, e2]
        · simp only [e1, e2, if_true, if_false] at b2 ⊢
          rw [w64_in (by omega)]; omega
      · by_cases e2 : (A.node (i + 1)).right = 0
        · simp only [e1, e2, if_true, if_false] at b1 ⊢
          rw [w64_in (by omega)]; omega
        · simp only [e1, e2, if_false] at b1 b2 ⊢
          rw [w64_in (z := 1 + (A.node (A.node (i + 1)).left).size) (by omega), w64_in (by omega)]
    rw [hS, ← hs']
    show (A.node (i + 1)).size ≠ w64 ((A.node (i + 1)).size + b)
    rw [w64_in (by omega)]; omega)
  exact finds_ne hk hf

theorem dmg_on (P : Nat → Bool) : 0 < (finds (A.dump.setS i (A.slt (i + 1)).wo) roots P).length := by
  have hg := dump_get hi
  have hl := (List.getElem?_eq_some_iff.1 hg).1
  have hk : (A.dump.setS i (A.slt (i + 1)).wo).slots[i]? = some (A.slt (i + 1)).wo := by
    simp [Dp.setS, hl]
  obtain ⟨f, hf⟩ := free_mem (D := A.dump.setS i (A.slt (i + 1)).wo) (roots := roots) (P := P) (k := i) (s := (A.slt (i + 1)).wo) (by
    show (if (!A.used (i + 1)) = true then (0 : Int) else 1) ≠ ((A.order.count (i + 1) : Nat) : Int)
    rw [order_count s.wf (by omega) (by omega)]
    cases A.used (i + 1) <;> simp)
  exact finds_ne hk hf

theorem dmg_more (P : Nat → Bool) : 0 < (finds ⟨A.dump.slots, A.dump.free ++ [i + 1]⟩ roots P).length := by
  have hg := dump_get hi
  obtain ⟨f, hf⟩ := free_mem (D := ⟨A.dump.slots, A.dump.free ++ [i + 1]⟩) (roots := roots) (P := P) (k := i) (s := A.slt (i + 1)) (by
    show (if A.used (i + 1) = true then (0 : Int) else 1) ≠ (((A.order ++ [i + 1]).count (i + 1) : Nat) : Int)
    rw [List.count_append, order_count s.wf (by omega) (by omega), List.count_singleton_self]
    cases A.used (i + 1) <;> simp)
  exact finds_ne hg hf

theorem lost_ref {other : List Nat} (hne : other.count (i + 1) ≠ h (i + 1)) (hu : A.used (i + 1) = true) (P : Nat → Bool) : ∃ f ∈ finds A.dump other P, f.kind = 4 ∧ f.slot = i + 1 := by
  have hg := dump_get hi
  refine ⟨_, finds_at hg (cnt_mem ?_), rfl, rfl⟩
  unfold wantC
  show (if A.used (i + 1) = true then _ else (0 : Int)) ≠ A.countOf (i + 1)
  unfold AR.countOf
  rw [hu, if_pos rfl, if_pos rfl, kds_edges s.wf, s.cnt _ hu]
  simp
  omega
end

theorem dmg_less {A : AR} {h : Nat → Nat} (s : Sound A h) (roots : List Nat) {x : Nat} {t : List Nat} (hf : A.dump.free = x :: t) (P : Nat → Bool) : 0 < (finds ⟨A.dump.slots, t⟩ roots P).length := by
  have hx : x ∈ A.order := by show x ∈ A.dump.free; rw [hf]; simp
  have hb : 1 ≤ x ∧ x ≤ A.cap := by
    have hx2 : x ∈ A.rel.reverse ++ List.range' (A.fresh + 1) (A.cap - A.fresh) := hx
    have := s.wf.fr
    rcases List.mem_append.1 hx2 with hx2 | hx2
    · have := s.wf.rl x (by simpa using hx2); omega
    · have := List.mem_range'_1.1 hx2; omega
  obtain ⟨i, rfl⟩ : ∃ i, x = i + 1 := ⟨x - 1, by omega⟩
  have hi : i < A.cap := by omega
  have hc := order_count s.wf hb.1 hb.2
  have hpos := List.count_pos_iff.2 hx
  have hu : A.used (i + 1) = false := by
    cases e : A.used (i + 1) with
    | false => rfl
    | true => rw [e] at hc; simp at hc; omega
  rw [hu] at hc
  have ht : t.count (i + 1) = 0 := by
    have e : A.order = (i + 1) :: t := hf
    rw [e, List.count_cons_self] at hc
    simp at hc; exact hc
  have hg := dump_get hi
  obtain ⟨f, hf⟩ := free_mem (D := ⟨A.dump.slots, t⟩) (roots := roots) (P := P) (k := i) (s := A.slt (i + 1)) (by
    show (if A.used (i + 1) = true then (0 : Int) else 1) ≠ ((t.count (i + 1) : Nat) : Int)
    rw [ht, hu]; simp)
  exact finds_ne hg hf

end Go.Proofs.Ytapocbahkeoeoaa
