/-
  Functions that only read the arena; the nodes of a tree.
-/
import Derived.Test.YtfaeboamjfdjlaaPl
import Derived.Test.YtfaeboamjfdjlaaS8
set_option linter.unusedVariables false
namespace Go.Proofs.Ytfaeboamjfdjlaa
open Go.Vc

/-- What a function hands over that only reads the arena. -/
def RdR (w : World) (lo p : Nat) (q : AP) (A : AR) (n : Nat) (r : Value) (v : Value) (w' : World) : Prop :=
  v = r ∧ ∃ B, ArP w' lo p q B ∧ Rds A B n ∧ Fr (fun b => b = p) w w'

theorem RdR.fin {w w1 w2 : World} {lo p : Nat} {q : AP} {A B : AR} {n : Nat} {r v : Value} (hv : v = r) (ha : ArP w lo p q A) (ha1 : ArP w1 lo p q B) (hB : Rds A B n) (hF : Fr (fun b => b = p) w w1) (hN : Fr (fun b => w.heap.size ≤ b) w1 w2) : RdR w lo p q A n r v w2 :=
  ⟨hv, B, ha1.fr hN (fun b hb e => by have := ha.lt b hb; omega), hB, hF.trans' hN fun b hb e => by omega⟩

theorem InA.nodeC {A : AR} {i : Nat} {l r : Tr} {k v : Int} (h : InA A (.nd i l k v r)) (hv : InE (Tr.nd i l k v r).ents) (hs : (Tr.nd i l k v r).sz ≤ 2147483647) :
    A.nodeOf i = ⟨k, v, l.root, r.root, (smy (Tr.nd i l k v r).vals).n, (smy (Tr.nd i l k v r).vals).s, (smy (Tr.nd i l k v r).vals).mn, (smy (Tr.nd i l k v r).vals).mx⟩ := by
  have e := h.sm hv.vals hs
  have e1 : smAt A i = ndS (A.node i) := by unfold smAt; rw [if_neg (by have := h.1; omega)]
  have e2 : A.nodeOf i = A.node i := by unfold AR.nodeOf; rw [if_pos h.2.1]
  have e3 : ndS (A.node i) = smy (Tr.nd i l k v r).vals := by rw [← e1]; exact e
  obtain ⟨a, b, c, d⟩ := mkN_lr A k v l.root r.root
  rw [← h.2.2.1] at a b c d
  rw [e2, ← e3]
  generalize A.node i = N at *
  obtain ⟨n1, n2, n3, n4, n5, n6, n7, n8⟩ := N
  simp only at a b c d
  subst a; subst b; subst c; subst d
  rfl

theorem InA.nodeL {A : AR} {i : Nat} {l r : Tr} {k v : Int} (h : InA A (.nd i l k v r)) (hv : InE (Tr.nd i l k v r).ents) (hs : (Tr.nd i l k v r).sz ≤ 2147483647) :
    (A.nodeOf i).cells = [.int .i64 k, .int .i64 v, .int .u32 (l.root : Int), .int .u32 (r.root : Int), .int .i64 (smy (Tr.nd i l k v r).vals).n, .int .i64 (smy (Tr.nd i l k v r).vals).s, .int .i64 (smy (Tr.nd i l k v r).vals).mn, .int .i64 (smy (Tr.nd i l k v r).vals).mx] := by
  rw [h.nodeC hv hs]; rfl

theorem InA.roots {A : AR} (hw : Wf A) {i : Nat} {l r : Tr} {k v : Int} (h : InA A (.nd i l k v r)) : i < 4294967296 ∧ l.root < 4294967296 ∧ r.root < 4294967296 := by
  have hcap := hw.capM
  have := used_le hw h.2.1
  refine ⟨by omega, ?_, ?_⟩
  · rcases h.2.2.2.1.or with e | e
    · omega
    · have := used_le hw e; omega
  · rcases h.2.2.2.2.or with e | e
    · omega
    · have := used_le hw e; omega

theorem InA.rootlt {A : AR} (hw : Wf A) {t : Tr} (h : InA A t) : t.root < 4294967296 := by
  have := hw.capM
  rcases h.or with e | e
  · omega
  · have := used_le hw e; omega

theorem Plt.szT {A B : AR} {t : Tr} {l : List (Int × Int)} (h : Plt A B t l) : t.sz = l.length := by rw [← t.len, h.ent]

end Go.Proofs.Ytfaeboamjfdjlaa
