/-
  An arena with the references that a caller holds: what Make and Release do to both.
-/
import Derived.Test.YtfaeboamjfdjlaaTa
import Derived.Test.YtfaeboamjfdjlaaCp
set_option linter.unusedVariables false
namespace Go.Proofs.Ytfaeboamjfdjlaa
open Go.Vc

structure Ars (w : World) (lo p : Nat) (q : AP) (A : AR) (h : Nat → Nat) : Prop where
  ar : ArP w lo p q A
  snd : Sound A h
  los : lo ≤ w.heap.size
  lof : ∀ b, q.fp b → lo ≤ b

theorem Ars.ext {w w' : World} {lo p : Nat} {q : AP} {A : AR} {h : Nat → Nat} (g : Ars w lo p q A h) (f : Ext w w') : Ars w' lo p q A h :=
  ⟨g.ar.ext f, g.snd, Nat.le_trans g.los f.size, g.lof⟩
theorem Ars.rd {w w' : World} {lo p : Nat} {q : AP} {A B : AR} {h : Nat → Nat} {n : Nat} (g : Ars w lo p q A h) (ha : ArP w' lo p q B) (r : Rds A B n) (f : Fr (fun b => b = p) w w') : Ars w' lo p q B h :=
  ⟨ha, r.snd g.snd, Nat.le_trans g.los f.size, g.lof⟩
theorem Ars.congr {w : World} {lo p : Nat} {q : AP} {A : AR} {h h' : Nat → Nat} (g : Ars w lo p q A h) (e : ∀ i, 1 ≤ i → h i = h' i) : Ars w lo p q A h' := ⟨g.ar, g.snd.congr e, g.los, g.lof⟩

/-- What is allocated stays as it is. -/
structure Kp (A B : AR) : Prop where
  cap : B.cap = A.cap
  old : ∀ i, A.used i = true → B.used i = true ∧ B.node i = A.node i ∧ B.gen i = A.gen i
theorem Kp.refl (A : AR) : Kp A A := ⟨rfl, fun _ h => ⟨h, rfl, rfl⟩⟩
theorem Kp.trans {A B C : AR} (h : Kp A B) (g : Kp B C) : Kp A C := ⟨g.cap.trans h.cap, fun i hi => by
  obtain ⟨a, b, c⟩ := h.old i hi
  obtain ⟨a', b', c'⟩ := g.old i a
  exact ⟨a', b'.trans b, c'.trans c⟩⟩
theorem Rds.kp {A B : AR} {n : Nat} (r : Rds A B n) : Kp A B := by rw [r.eq]; exact ⟨rfl, fun _ h => ⟨h, rfl, rfl⟩⟩
theorem Rds.free {A B : AR} {n : Nat} (r : Rds A B n) : B.free = A.free := by rw [r.eq]; rfl
theorem decC_kp (A : AR) (c : Nat) : Kp A (A.decC c) := by
  obtain ⟨a, b, c', d, e, f⟩ := decC_eqs A c
  refine ⟨a, fun i hi => ⟨by rw [e]; exact hi, by rw [f], ?_⟩⟩
  unfold AR.decC; split <;> rfl
theorem decC_free (A : AR) (c : Nat) : (A.decC c).free = A.free := by unfold AR.decC; split <;> rfl

theorem mkE0 {A : AR} {h : Nat → Nat} (s : Sound A h) {k v : Int} {l r : Nat} (hl : l = 0 ∨ A.used l = true) (hr : r = 0 ∨ A.used r = true) (hsz : szOf A l + 1 + szOf A r ≤ 2147483647) (hf : A.free ≠ 0) : A.makeE k v l r = 0 := by
  have b1 := szOf_bd s l hl
  have b2 := szOf_bd s r hr
  unfold AR.makeE
  rw [if_neg, if_neg hf]
  rintro (⟨a, b⟩ | ⟨a, b⟩ | hx)
  · rcases hl with e | e
    · exact a e
    · rw [e] at b; cases b
  · rcases hr with e | e
    · exact a e
    · rw [e] at b; cases b
  · rw [mkN_szOf (by unfold szOf; omega) (by unfold szOf; omega)] at hx; omega

/-- What 'Make' does, if it succeeds. -/
structure Mkd (A B : AR) (i : Nat) (k v : Int) (l r : Nat) : Prop where
  new : A.used i = false
  i1 : 1 ≤ i
  ic : i ≤ A.cap
  use : B.used i = true
  nd : B.node i = mkN A k v l r
  kp : Kp A B
  free : B.free + 1 = A.free
  reads : B.reads = A.reads

theorem make_facts {A : AR} (hw : Wf A) {k v : Int} {l r : Nat} (hE : A.makeE k v l r = 0) : Mkd A (A.make k v l r) A.top k v l r := by
  obtain ⟨hl, hr, hsz, hf⟩ := makeE_zero hE
  obtain ⟨t1, t2, t3⟩ := hw.top_bd hf
  have hB := make_eq hE
  generalize A.make k v l r = B at *
  subst hB
  refine ⟨t3, t1, t2, ?_, ?_, ⟨rfl, fun i hi => ?_⟩, ?_, rfl⟩
  · show upd A.used A.top true A.top = true; rw [upd_same]
  · show upd A.node A.top (mkN A k v l r) A.top = _; rw [upd_same]
  · have hne : i ≠ A.top := by rintro rfl; rw [t3] at hi; cases hi
    refine ⟨?_, ?_, ?_⟩
    · show upd A.used A.top true i = true; rw [upd_ne _ _ hne]; exact hi
    · show upd A.node A.top _ i = _; rw [upd_ne _ _ hne]
    · show upd A.gen A.top _ i = _; rw [upd_ne _ _ hne]
  · show A.rel.dropLast.length + A.cap - (if A.rel = [] then A.fresh + 1 else A.fresh) + 1 = A.rel.length + A.cap - A.fresh
    have := hw.fr
    unfold AR.free at hf
    by_cases e : A.rel = []
    · rw [if_pos e, e]; rw [e] at hf; simp at hf ⊢; omega
    · rw [if_neg e, List.length_dropLast]
      have := List.length_pos_iff.2 e
      omega

theorem Mkd.lr {A B : AR} {i : Nat} {k v : Int} {l r : Nat} (m : Mkd A B i k v l r) : (B.node i).key = k ∧ (B.node i).val = v ∧ (B.node i).left = l ∧ (B.node i).right = r := by
  rw [m.nd]; exact mkN_lr A k v l r
theorem Mkd.size {A B : AR} {i : Nat} {k v : Int} {l r : Nat} {h : Nat → Nat} (m : Mkd A B i k v l r) (s : Sound A h) (hl : l = 0 ∨ A.used l = true) (hr : r = 0 ∨ A.used r = true) : szOf B i = szOf A l + 1 + szOf A r := by
  have b1 := szOf_bd s l hl
  have b2 := szOf_bd s r hr
  have e : szOf B i = (B.node i).size := by unfold szOf; rw [if_neg (by have := m.i1; omega)]
  rw [e, m.nd, mkN_szOf (by unfold szOf; omega) (by unfold szOf; omega)]
theorem Kp.szOf {A B : AR} (kp : Kp A B) {c : Nat} (hc : c = 0 ∨ A.used c = true) : szOf B c = szOf A c := by
  unfold Proofs.Ytfaeboamjfdjlaa.szOf
  split
  · rfl
  · rename_i h0
    rw [(kp.old c (hc.resolve_left h0)).2.1]
theorem Kp.or {A B : AR} (kp : Kp A B) {c : Nat} (hc : c = 0 ∨ A.used c = true) : c = 0 ∨ B.used c = true := hc.imp id fun h => (kp.old c h).1

theorem top_lt {A : AR} (hw : Wf A) (hf : A.free ≠ 0) : A.top < 4294967296 := by
  have := hw.top_bd hf
  have := hw.capM
  omega

theorem c_MakeA (w : World) (lo p : Nat) (q : AP) (A : AR) (h : Nat → Nat) (k v : Int) (l r : Nat) (g : Ars w lo p q A h) (hb : ∀ i, h i ≤ 1000000000) (hl : l = 0 ∨ A.used l = true) (hr : r = 0 ∨ A.used r = true) (hE : A.makeE k v l r = 0) :
    Calls Try.prog 25 [ptr p, .int .i64 k, .int .i64 v, .int .u32 (l : Int), .int .u32 (r : Int)].toArray w (Ret fun x w' =>
      x = .tuple #[.int .u32 (A.top : Int), .int .i64 0] ∧ ∃ q' B, Ars w' lo p q' B (addH h A.top) ∧ Mkd A B A.top k v l r ∧ (∀ b, q'.fp b → q.fp b ∨ w.heap.size ≤ b) ∧ Fr q.fp w w') := by
  have hc := g.ar.wf.capM
  have lt : ∀ c, c = 0 ∨ A.used c = true → c < 4294967296 := fun c hc => by
    rcases hc with e | e
    · omega
    · have := used_le g.ar.wf e; omega
  refine (p_Make w lo p q A k v l r g.ar (lt l hl) (lt r hr)).mono ?_
  rintro e w' ⟨x, rfl, rfl, q', ha, hq, hf⟩
  have hI : A.makeI k v l r = A.top := by unfold AR.makeI; rw [if_pos hE]
  refine ⟨_, rfl, by rw [hI, hE], q', _, ⟨ha, g.snd.make hb hE, Nat.le_trans g.los hf.size, fun b hb => ?_⟩, make_facts g.ar.wf hE, hq, hf⟩
  rcases hq b hb with h1 | h1
  · exact g.lof b h1
  · exact Nat.le_trans g.los h1

theorem Sound.decpos {A : AR} {h : Nat → Nat} {k : Nat} (s : Sound A (addH h k)) (hb : h k ≤ 1000000000) (hu : A.used k = true) (hp : 0 < edges A k + h k) : 0 < (A.dec k).cnt k := by
  have hcnt := s.cnt k hu
  have hle := edges_le s.wf k
  have e1 : addH h k k = h k + 1 := by unfold addH eq01; rw [if_pos rfl]
  rw [e1] at hcnt
  show 0 < upd A.cnt k (w64 (A.cnt k - 1)) k
  rw [upd_same, hcnt, w64_in (by omega)]; omega

theorem edge_pos {A : AR} (hw : Wf A) {k i : Nat} (hk : A.used k = true) (h : (A.node k).left = i ∨ (A.node k).right = i) : 0 < edges A i := by
  rcases Nat.eq_zero_or_pos (edges A i) with h0 | h0
  · have := sumTo_zero (f := fun k => edge A k i) (n := A.cap + 1) h0 k (by have := used_le hw hk; omega)
    simp only [edge, hk, if_true, eq01] at this
    rcases h with e | e
    · rw [if_pos e] at this; omega
    · rw [if_pos (c := (A.node k).right = i) e] at this; omega
  · exact h0

theorem c_RelA (w : World) (lo p : Nat) (q : AP) (A : AR) (h : Nat → Nat) (k : Nat) (g : Ars w lo p q A (addH h k)) (hb : h k ≤ 1000000000) (hu : A.used k = true) (hp : 0 < edges A k + h k) :
    Calls Try.prog 57 [ptr p, .int .u32 (k : Int)].toArray w (Ret fun r w' => r = .tuple #[.int .i64 0, .int .i64 0] ∧ ∃ q', Ars w' lo p q' (A.decC k) h ∧ (∀ b, q'.fp b → q.fp b ∨ w.heap.size ≤ b) ∧ Fr q.fp w w') := by
  have hkl := used_le g.ar.wf hu
  have hc := g.ar.wf.capM
  have hd := g.snd.decpos hb hu hp
  refine (p_RelKid w lo p q A k g.ar g.los (by omega) (Or.inr ⟨hu, hd⟩)).mono ?_
  rintro _ w' ⟨v, rfl, rfl, q', ha, hq, hf⟩
  refine ⟨_, rfl, rfl, q', ⟨ha, g.snd.decC hb (Or.inr hd), Nat.le_trans g.los hf.size, fun b hb => ?_⟩, hq, hf⟩
  rcases hq b hb with h1 | h1
  · exact g.lof b h1
  · exact Nat.le_trans g.los h1

end Go.Proofs.Ytfaeboamjfdjlaa
