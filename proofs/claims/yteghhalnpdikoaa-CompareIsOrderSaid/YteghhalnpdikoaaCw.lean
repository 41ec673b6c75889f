/-
  Stacks of trees and entries: one side of a walk through two trees.
-/
import Derived.Test.YteghhalnpdikoaaCq
import Derived.Test.YteghhalnpdikoaaTa
import Derived.Test.YteghhalnpdikoaaFx
set_option linter.unusedVariables false
namespace Go.Vc
/-- The last record is taken off. -/
theorem Own.popG {w : World} {lo m : Nat} {e : TypeId} {v : Value} {n : Nat} {xs ys : List Value} (h : Own w lo e m v (n + 1) (xs ++ ys)) (hy : ys.length = m) :
    ∃ g cap, v = .slice (some ⟨g, 0, none⟩) (n + 1) cap ∧ lo ≤ g ∧ n + 1 ≤ cap ∧ (∀ j u, ys[j]? = some u → w.cell? ⟨g, 0 + n * m + j, none⟩ = some u) ∧ Own w lo e m (.slice (some ⟨g, 0, none⟩) n cap) n xs := by
  have hl : xs.length = n * m := by have := h.1; rw [List.length_append, hy, Nat.succ_mul] at this; omega
  rcases h.2 with ⟨_, h0⟩ | ⟨g, cap, cur, hv, hg, hh, hn', hc, hs, ht⟩
  · omega
  · have hat : At w g cur.toList e := ⟨by simpa using hh⟩
    have hpre : cur.toList.take (n * m) = xs := by
      have := congrArg (List.take (n * m)) ht
      rw [List.take_take, Nat.min_eq_left (by rw [Nat.succ_mul]; omega), List.take_left' hl] at this
      exact this
    refine ⟨g, cap, hv, hg, hn', fun j u hj => ?_, ⟨hl, Or.inr ⟨g, cap, cur, rfl, hg, hh, by omega, hc, hs, hpre⟩⟩⟩
    have hjl : j < m := by rw [← hy]; exact (List.getElem?_eq_some_iff.1 hj).1
    rw [Nat.zero_add]
    refine hat.cell ?_
    have e1 : (cur.toList.take ((n + 1) * m))[n * m + j]? = some u := by
      rw [ht, List.getElem?_append_right (by omega), hl, Nat.add_sub_cancel_left]; exact hj
    rw [List.getElem?_take] at e1
    rw [if_pos (by rw [Nat.succ_mul]; omega)] at e1
    exact e1
end Go.Vc
namespace Go.Proofs.Yteghhalnpdikoaa
open Go.Vc

/-- The same root, the same tree. -/
theorem InA.uniq {A : AR} : ∀ {t u : Tr}, InA A t → InA A u → t.root = u.root → t = u
  | .nil, .nil, _, _, _ => rfl
  | .nil, .nd i l k v r, _, h, e => by have := h.1; have e : 0 = i := e; omega
  | .nd i l k v r, .nil, h, _, e => by have := h.1; have e : i = 0 := e; omega
  | .nd i l k v r, .nd i' l' k' v' r', h, h', e => by
    have e : i = i' := e
    subst e
    have e1 := h.2.2.1.symm.trans h'.2.2.1
    obtain ⟨a1, a2, a3, a4⟩ := mkN_lr A k v l.root r.root
    obtain ⟨b1, b2, b3, b4⟩ := mkN_lr A k' v' l'.root r'.root
    rw [e1] at a1 a2 a3 a4
    obtain rfl := a1.symm.trans b1
    obtain rfl := a2.symm.trans b2
    obtain rfl := InA.uniq h.2.2.2.1 h'.2.2.2.1 (a3.symm.trans b3)
    obtain rfl := InA.uniq h.2.2.2.2 h'.2.2.2.2 (a4.symm.trans b4)
    rfl

inductive Itm where
  | tr (t : Tr)
  | one (e : Int × Int)
def Itm.ents : Itm → List (Int × Int)
  | .tr t => t.ents
  | .one e => [e]
def Itm.cells : Itm → List Value
  | .tr t => [.int .u32 (t.root : Int), .int .i64 (t.sz : Int), .int .i64 0, .int .i64 0, .bool false]
  | .one e => [.int .u32 0, .int .i64 0, .int .i64 e.1, .int .i64 e.2, .bool true]
def Itm.wgt : Itm → Nat
  | .tr t => 3 * t.sz
  | .one _ => 1
def Itm.ok (A : AR) : Itm → Prop
  | .tr t => t.root ≠ 0 ∧ InA A t
  | .one _ => True
theorem Itm.len (x : Itm) : x.cells.length = 5 := by cases x <;> rfl
theorem Itm.cell1 (x : Itm) : ∀ u ∈ x.cells, u.oneCell' = true := by
  intro u hu
  cases x <;> simp [Itm.cells] at hu <;> rcases hu with rfl | rfl | rfl | rfl | rfl <;> rfl
/-- What the stack holds, its top first. -/
def den (P : List Itm) : List (Int × Int) := P.reverse.flatMap Itm.ents
def wgt (P : List Itm) : Nat := (P.map Itm.wgt).sum
theorem den_nil : den [] = [] := rfl
theorem den_push (P : List Itm) (x : Itm) : den (P ++ [x]) = x.ents ++ den P := by unfold den; simp
theorem wgt_push (P : List Itm) (x : Itm) : wgt (P ++ [x]) = wgt P + x.wgt := by unfold wgt; simp
theorem Tr.sz_pos {t : Tr} (h : t.root ≠ 0) : 1 ≤ t.sz := by
  cases t with
  | nil => exact absurd rfl h
  | nd i l k v r => show 1 ≤ l.sz + 1 + r.sz; omega
theorem wgt_len {A : AR} : ∀ {P : List Itm}, (∀ x ∈ P, x.ok A) → P.length ≤ wgt P
  | [], _ => Nat.zero_le _
  | x :: P, h => by
    have ih := wgt_len (P := P) fun y hy => h y (by simp [hy])
    have hx : 1 ≤ x.wgt := by
      cases x with
      | one e => exact Nat.le_refl _
      | tr t => have := Tr.sz_pos (h (.tr t) (by simp)).1; show 1 ≤ 3 * t.sz; omega
    have e : wgt (x :: P) = x.wgt + wgt P := by unfold wgt; simp
    rw [e, List.length_cons]; omega
/-- A tree is pushed, unless it is empty. -/
def psh (P : List Itm) (t : Tr) : List Itm := if t.root = 0 then P else P ++ [.tr t]
theorem den_psh {A : AR} {P : List Itm} {t : Tr} (h : InA A t) : den (psh P t) = t.ents ++ den P := by
  unfold psh
  split
  · rename_i e; rw [h.root0 e]; rfl
  · exact den_push _ _
theorem wgt_psh {A : AR} {P : List Itm} {t : Tr} (h : InA A t) : wgt (psh P t) = wgt P + 3 * t.sz := by
  unfold psh
  split
  · rename_i e; rw [h.root0 e]; rfl
  · exact wgt_push _ _
theorem ok_psh {A : AR} {P : List Itm} {t : Tr} (h : InA A t) (hP : ∀ x ∈ P, x.ok A) : ∀ x ∈ psh P t, x.ok A := by
  unfold psh
  split
  · exact hP
  · rename_i e
    intro x hx
    rcases List.mem_append.1 hx with hx | hx
    · exact hP x hx
    · simp at hx; subst hx; exact ⟨e, h⟩

def OwnI (w : World) (lo : Nat) (v : Value) (P : List Itm) : Prop := Own w lo 141 5 v P.length (P.flatMap Itm.cells)
structure SdAt (w : World) (lo b : Nat) (v : Value) (P : List Itm) : Prop where
  at' : At w b [v] 138
  own : OwnI w lo v P
theorem SdAt.fr {w w' : World} {lo b : Nat} {v : Value} {P : List Itm} {S : Nat → Prop} (h : SdAt w lo b v P) (f : Fr S w w') (hb : ¬ S b) (ho : ∀ x, v.ownBlock = some x → ¬ S x) : SdAt w' lo b v P :=
  ⟨h.at'.fr f hb, Own.of_heap h.own fun g hg => f.block g (Own.block_lt h.own hg).1 (ho g hg)⟩
theorem SdAt.ext {w w' : World} {lo b : Nat} {v : Value} {P : List Itm} (h : SdAt w lo b v P) (f : Ext w w') : SdAt w' lo b v P := h.fr f id fun _ _ => id
theorem OwnI.nec {w : World} {lo b : Nat} {v : Value} {P : List Itm} {C : List Value} {T : TypeId} (h : OwnI w lo v P) (hb : At w b C T) (hT : T ≠ 141) : v.ownBlock ≠ some b := by
  intro e
  obtain ⟨_, C', hat⟩ := Own.block_lt h e
  exact hb.ne hat hT rfl
theorem SdAt.b {w : World} {lo b : Nat} {v : Value} {P : List Itm} (h : SdAt w lo b v P) : v.ownBlock ≠ some b := h.own.nec h.at' (by decide)
theorem SdAt.lo {w : World} {lo b x : Nat} {v : Value} {P : List Itm} (h : SdAt w lo b v P) (hx : v.ownBlock = some x) : lo ≤ x ∧ x < w.heap.size := by
  rcases h.own.2 with ⟨rfl, _⟩ | ⟨g, cap, cur, rfl, hg, hh, _⟩
  · cases hx
  · simp only [Value.ownBlock, Option.some.injEq] at hx
    subst hx
    exact ⟨hg, (Array.getElem?_eq_some_iff.1 hh).1⟩

end Go.Proofs.Yteghhalnpdikoaa
