/-
  Trees in an arena: what they hold, and how they are put together. No program in sight.
-/
import Derived.Test.YtfaeboamjfdjlaaSd
set_option linter.unusedVariables false
namespace Go.Proofs.Ytfaeboamjfdjlaa
open Go.Vc

inductive Tr where
  | nil
  | nd (i : Nat) (l : Tr) (k v : Int) (r : Tr)

def Tr.root : Tr → Nat
  | .nil => 0
  | .nd i _ _ _ _ => i
def Tr.ents : Tr → List (Int × Int)
  | .nil => []
  | .nd _ l k v r => l.ents ++ (k, v) :: r.ents
def Tr.sz : Tr → Nat
  | .nil => 0
  | .nd _ l _ _ r => l.sz + 1 + r.sz
def Tr.ht : Tr → Nat
  | .nil => 0
  | .nd _ l _ _ r => 1 + max l.ht r.ht
def balN (l r : Nat) : Prop := l + 1 ≤ 3 * (r + 1) ∧ r + 1 ≤ 3 * (l + 1)
def Tr.bal : Tr → Prop
  | .nil => True
  | .nd _ l _ _ r => balN l.sz r.sz ∧ l.bal ∧ r.bal

theorem Tr.len (t : Tr) : t.ents.length = t.sz := by
  induction t with
  | nil => rfl
  | nd i l k v r hl hr => simp [ents, sz, hl, hr]; omega

/-- The tree lies in the arena. -/
def InA (A : AR) : Tr → Prop
  | .nil => True
  | .nd i l k v r => 1 ≤ i ∧ A.used i = true ∧ A.node i = mkN A k v l.root r.root ∧ InA A l ∧ InA A r

theorem InA.used {A : AR} {t : Tr} (h : InA A t) (hne : t.root ≠ 0) : A.used t.root = true := by
  cases t with
  | nil => exact absurd rfl hne
  | nd i l k v r => exact h.2.1

theorem InA.root0 {A : AR} {t : Tr} (h : InA A t) (h0 : t.root = 0) : t = .nil := by
  cases t with
  | nil => rfl
  | nd i l k v r =>
    have e : i = 0 := h0
    have := h.1
    omega

theorem InA.or {A : AR} {t : Tr} (h : InA A t) : t.root = 0 ∨ A.used t.root = true := by
  rcases Nat.eq_zero_or_pos t.root with e | e
  · exact Or.inl e
  · exact Or.inr (h.used (by omega))

theorem mkN_congr' {A B : AR} {k v : Int} {l r : Nat} (hl : l = 0 ∨ B.node l = A.node l) (hr : r = 0 ∨ B.node r = A.node r) : mkN B k v l r = mkN A k v l r := by
  have e : ∀ (c : Nat) (n : Nd), c = 0 ∨ B.node c = A.node c → addC B c n = addC A c n := by
    intro c n h
    unfold addC
    split
    · rfl
    · rcases h with h | h
      · contradiction
      · rw [h]
  unfold mkN
  rw [e l _ hl, e r _ hr]

theorem InA.keep {A B : AR} (hk : ∀ i, A.used i = true → B.used i = true ∧ B.node i = A.node i) : ∀ {t : Tr}, InA A t → InA B t
  | .nil, _ => trivial
  | .nd i l k v r, h => by
    refine ⟨h.1, (hk i h.2.1).1, ?_, InA.keep hk h.2.2.2.1, InA.keep hk h.2.2.2.2⟩
    rw [(hk i h.2.1).2, h.2.2.1]
    refine (mkN_congr' ?_ ?_).symm
    · rcases h.2.2.2.1.or with e | e
      · exact Or.inl e
      · exact Or.inr (hk _ e).2
    · rcases h.2.2.2.2.or with e | e
      · exact Or.inl e
      · exact Or.inr (hk _ e).2

theorem InA.read {A : AR} {t : Tr} (h : InA A t) (i : Nat) : InA (A.read i) t := by
  refine h.keep fun j hj => ?_
  unfold AR.read; split <;> exact ⟨hj, rfl⟩

/-- The size at a child. -/
def szOf (A : AR) (c : Nat) : Int := if c = 0 then 0 else (A.node c).size

theorem mkN_szOf {A : AR} {k v : Int} {l r : Nat} (hl : 0 ≤ szOf A l ∧ szOf A l ≤ 2147483647) (hr : 0 ≤ szOf A r ∧ szOf A r ≤ 2147483647) : (mkN A k v l r).size = szOf A l + 1 + szOf A r := by
  unfold szOf at *
  unfold mkN addC
  by_cases e1 : l = 0 <;> by_cases e2 : r = 0 <;> simp only [e1, e2, if_true, if_false] at hl hr ⊢
  · rfl
  · rw [w64_in (by omega)]; omega
  · rw [w64_in (by omega)]; omega
  · rw [w64_in (z := 1 + (A.node l).size) (by omega), w64_in (by omega)]; omega

theorem InA.size {A : AR} : ∀ {t : Tr}, InA A t → t.sz ≤ 2147483647 → szOf A t.root = (t.sz : Int)
  | .nil, _, _ => rfl
  | .nd i l k v r, h, hs => by
    have e : (Tr.nd i l k v r).sz = l.sz + 1 + r.sz := rfl
    rw [e] at hs ⊢
    have e1 := InA.size h.2.2.2.1 (by omega)
    have e2 := InA.size h.2.2.2.2 (by omega)
    show szOf A i = _
    unfold szOf
    rw [if_neg (by have := h.1; omega), h.2.2.1, mkN_szOf (by omega) (by omega), e1, e2]
    omega

theorem InA.sizeOf {A : AR} (hw : Wf A) {t : Tr} (h : InA A t) (hs : t.sz ≤ 2147483647) : A.sizeOf t.root = (t.sz : Int) := by
  rw [← h.size hs]
  unfold AR.sizeOf szOf
  rcases Nat.eq_zero_or_pos t.root with e | e
  · rw [e, hw.u0]; rfl
  · rw [h.used (by omega), if_pos rfl, if_neg (by omega)]

/-! ### Putting trees together -/

/-- The state behind the release of a child. -/
def AR.decC (A : AR) (c : Nat) : AR := if c = 0 then A else A.dec c

/-- A held reference is given back, which is not the last one. -/
theorem Sound.decC {A : AR} {h : Nat → Nat} {k : Nat} (s : Sound A (addH h k)) (hb : h k ≤ 1000000000) (hp : k = 0 ∨ 0 < (A.dec k).cnt k) : Sound (A.decC k) h := by
  unfold AR.decC
  by_cases h0 : k = 0
  · rw [if_pos h0]
    exact s.congr fun i hi => by unfold addH eq01; rw [if_neg (by omega)]; rfl
  rw [if_neg h0]
  have hp := hp.resolve_left h0
  have hku : A.used k = true := by
    cases e : A.used k with
    | true => rfl
    | false =>
      have := s.hz k (by omega) e
      unfold addH eq01 at this
      rw [if_pos rfl] at this; omega
  have hcnt := s.cnt k hku
  have hle := edges_le s.wf k
  have e1 : addH h k k = h k + 1 := by unfold addH eq01; rw [if_pos rfl]
  rw [e1] at hcnt
  have hdc : (A.dec k).cnt k = ((edges A k + h k : Nat) : Int) := by
    show upd A.cnt k (w64 (A.cnt k - 1)) k = _
    rw [upd_same, hcnt, w64_in (by omega)]; omega
  have hcd : ∀ i, i ≠ k → (A.dec k).cnt i = A.cnt i := fun i hi => upd_ne _ _ hi
  have hot : ∀ i, i ≠ k → addH h k i = h i := fun i hi => by unfold addH eq01; rw [if_neg (Ne.symm hi)]; rfl
  refine ⟨s.wf.congr rfl rfl rfl rfl rfl, ⟨s.ok.ch, s.ok.sz⟩, fun i hi => ?_, fun i hi => ?_, fun i h1 hi => ?_, s.kid, s.agg, s.zero⟩
  · show _ = ((edges A i + _ : Nat) : Int)
    by_cases e : i = k
    · subst e; exact hdc
    · rw [hcd i e, s.cnt i hi, hot i e]
  · show 1 ≤ edges A i + _
    by_cases e : i = k
    · subst e; omega
    · have := s.pos i hi; rw [hot i e] at this; exact this
  · replace hi : A.used i = false := hi
    have hne : i ≠ k := fun e => by rw [e, hku] at hi; cases hi
    have := s.hz i h1 hi; rw [hot i hne] at this; exact this

/-- From 'A' the arena has grown by a tree with the entries 'l'. -/
structure Plt (A B : AR) (t : Tr) (l : List (Int × Int)) : Prop where
  cap : B.cap = A.cap
  relA : A.rel = []
  rel : B.rel = []
  fresh : B.fresh = A.fresh + l.length
  reads : B.reads = A.reads
  old : ∀ i, 1 ≤ i → i ≤ A.fresh → B.used i = A.used i ∧ B.node i = A.node i ∧ B.cnt i = A.cnt i
  ent : t.ents = l
  inA : InA B t
  bal : t.bal
  rt : t.root = 0 ∨ (A.fresh < t.root ∧ t.root ≤ B.fresh ∧ B.cnt t.root = 1)
  snd : ∀ (h : Nat → Nat) (N : Nat), (∀ i, h i ≤ N) → N + l.length ≤ 500000000 → Sound A h → Sound B (addH h t.root)

theorem Plt.nil {A : AR} (h : A.rel = []) : Plt A A .nil [] :=
  ⟨rfl, h, h, rfl, rfl, fun _ _ _ => ⟨rfl, rfl, rfl⟩, rfl, trivial, trivial, Or.inl rfl, fun g N _ _ s => s.congr fun i hi => by unfold addH eq01; rw [if_neg (by show ¬ 0 = i; omega)]; rfl⟩

theorem decC_eqs (A : AR) (c : Nat) : (A.decC c).cap = A.cap ∧ (A.decC c).rel = A.rel ∧ (A.decC c).fresh = A.fresh ∧ (A.decC c).reads = A.reads ∧ (A.decC c).used = A.used ∧ (A.decC c).node = A.node := by
  unfold AR.decC; split <;> exact ⟨rfl, rfl, rfl, rfl, rfl, rfl⟩

theorem decC_cnt (A : AR) (c i : Nat) : (A.decC c).cnt i = if c = 0 then A.cnt i else upd A.cnt c (w64 (A.cnt c - 1)) i := by
  unfold AR.decC; split <;> rfl

theorem Plt.make {A B C : AR} {tl tr : Tr} {ll lr : List (Int × Int)} {k v : Int} (h1 : Plt A B tl ll) (h2 : Plt B C tr lr) (hwA : Wf A) (hwB : Wf B) (hw : Wf C) (hf : C.fresh < C.cap) (hb : balN ll.length lr.length) :
    C.makeE k v tl.root tr.root = 0 ∧ C.makeI k v tl.root tr.root = C.fresh + 1 ∧
    (tl.root = 0 ∨ ((C.make k v tl.root tr.root).used tl.root = true ∧ 0 < ((C.make k v tl.root tr.root).dec tl.root).cnt tl.root)) ∧
    (tr.root = 0 ∨ (((C.make k v tl.root tr.root).decC tl.root).used tr.root = true ∧ 0 < (((C.make k v tl.root tr.root).decC tl.root).dec tr.root).cnt tr.root)) ∧
    Plt A (((C.make k v tl.root tr.root).decC tl.root).decC tr.root) (.nd (C.fresh + 1) tl k v tr) (ll ++ (k, v) :: lr) := by
  have hcap := hw.capM
  have hfc := hw.fr
  have hlB := h1.fresh
  have hlC := h2.fresh
  have hkeep : ∀ i, B.used i = true → C.used i = true ∧ C.node i = B.node i := fun i hi => by
    have := hwB.uf i hi
    have := h2.old i this.1 this.2
    exact ⟨this.1.trans hi, this.2.1⟩
  have iL : InA C tl := h1.inA.keep hkeep
  have iR : InA C tr := h2.inA
  have sl : tl.sz = ll.length := by rw [← tl.len, h1.ent]
  have sr : tr.sz = lr.length := by rw [← tr.len, h2.ent]
  have zl := iL.size (by omega)
  have zr := iR.size (by omega)
  have hE : C.makeE k v tl.root tr.root = 0 := by
    unfold AR.makeE
    rw [if_neg, if_neg]
    · unfold AR.free; rw [h2.rel]; simp; omega
    · rintro (⟨a, b⟩ | ⟨a, b⟩ | hx)
      · rw [iL.used a] at b; cases b
      · rw [iR.used a] at b; cases b
      · rw [mkN_szOf (by omega) (by omega)] at hx; omega
  have htop : C.top = C.fresh + 1 := by unfold AR.top; rw [h2.rel]; rfl
  have eM : C.make k v tl.root tr.root = ((C.put (mkN C k v tl.root tr.root)).inc tl.root).inc tr.root := by unfold AR.make; rw [hE]; rfl
  have hl0 : tl.root = 0 ∨ (A.fresh < tl.root ∧ tl.root ≤ B.fresh ∧ C.cnt tl.root = 1 ∧ C.used tl.root = true) := by
    rcases h1.rt with e | ⟨e1, e2, e3⟩
    · exact Or.inl e
    · exact Or.inr ⟨e1, e2, (h2.old _ (by omega) e2).2.2.trans e3, iL.used (by omega)⟩
  have hr0 : tr.root = 0 ∨ (B.fresh < tr.root ∧ tr.root ≤ C.fresh ∧ C.cnt tr.root = 1 ∧ C.used tr.root = true) := by
    rcases h2.rt with e | ⟨e1, e2, e3⟩
    · exact Or.inl e
    · exact Or.inr ⟨e1, e2, e3, iR.used (by omega)⟩
  -- the counts, the marks, the nodes in the end
  have hused : ∀ i, i ≠ C.fresh + 1 → (C.make k v tl.root tr.root).used i = C.used i := fun i hi => by
    rw [eM]; show upd C.used C.top true i = _; rw [htop, upd_ne _ _ hi]
  have husedT : (C.make k v tl.root tr.root).used (C.fresh + 1) = true := by
    rw [eM]; show upd C.used C.top true _ = _; rw [htop, upd_same]
  have hnode : ∀ i, i ≠ C.fresh + 1 → (C.make k v tl.root tr.root).node i = C.node i := fun i hi => by
    rw [eM]; show upd C.node C.top _ i = _; rw [htop, upd_ne _ _ hi]
  have hnodeT : (C.make k v tl.root tr.root).node (C.fresh + 1) = mkN C k v tl.root tr.root := by
    rw [eM]; show upd C.node C.top _ _ = _; rw [htop, upd_same]
  have hcnt : ∀ i, (C.make k v tl.root tr.root).cnt i = upd (upd (upd C.cnt (C.fresh + 1) 1) tl.root (w64 (upd C.cnt (C.fresh + 1) 1 tl.root + 1))) tr.root (w64 (upd (upd C.cnt (C.fresh + 1) 1) tl.root (w64 (upd C.cnt (C.fresh + 1) 1 tl.root + 1)) tr.root + 1)) i := fun i => by
    rw [eM, ← htop]; rfl
  have hsm : ∀ g : Nat → Nat, (∀ i, g i ≤ 1000000000) → Sound C g → Sound (C.make k v tl.root tr.root) (addH g (C.fresh + 1)) := fun g hb s => by rw [← htop]; exact s.make hb hE
  generalize C.make k v tl.root tr.root = D at *
  have cL : tl.root = 0 ∨ D.cnt tl.root = 2 := by
    rcases hl0 with e | ⟨e1, e2, e3, _⟩
    · exact Or.inl e
    · right
      rw [hcnt]
      have hne : tl.root ≠ tr.root := by rcases hr0 with e | ⟨f1, f2, _, _⟩ <;> omega
      rw [upd_ne _ _ hne, upd_same, upd_ne _ _ (by omega), e3, w64_in (by omega)]; rfl
  have cR : tr.root = 0 ∨ D.cnt tr.root = 2 := by
    rcases hr0 with e | ⟨e1, e2, e3, _⟩
    · exact Or.inl e
    · right
      rw [hcnt]
      have hne : tr.root ≠ tl.root := by rcases hl0 with e | ⟨f1, f2, _, _⟩ <;> omega
      rw [upd_same, upd_ne _ _ hne, upd_ne _ _ (by omega), e3, w64_in (by omega)]; rfl
  have cO : ∀ i, i ≠ tl.root → i ≠ tr.root → i ≠ C.fresh + 1 → D.cnt i = C.cnt i := fun i a b c => by
    rw [hcnt, upd_ne _ _ b, upd_ne _ _ a, upd_ne _ _ c]
  have cT : D.cnt (C.fresh + 1) = 1 := by
    rw [hcnt, upd_ne _ _ (by rcases hr0 with e | ⟨f1, f2, _, _⟩ <;> omega), upd_ne _ _ (by rcases hl0 with e | ⟨f1, f2, _, _⟩ <;> omega), upd_same]
  have dLr : tr.root = 0 ∨ (D.decC tl.root).cnt tr.root = 2 := by
    rcases hr0 with e | ⟨e1, e2, e3, _⟩
    · exact Or.inl e
    · right
      have hne : tr.root ≠ tl.root := by rcases hl0 with e | ⟨f1, f2, _, _⟩ <;> omega
      have : (D.decC tl.root).cnt tr.root = D.cnt tr.root := by
        unfold AR.decC; split
        · rfl
        · show upd D.cnt tl.root _ tr.root = _; rw [upd_ne _ _ hne]
      rw [this]
      rcases cR with e | e
      · omega
      · exact e
  have hLp : tl.root = 0 ∨ 0 < (D.dec tl.root).cnt tl.root := by
    rcases hl0 with e | ⟨e1, e2, e3, e4⟩
    · exact Or.inl e
    · right
      show 0 < upd D.cnt tl.root (w64 (D.cnt tl.root - 1)) tl.root
      rw [upd_same]
      rcases cL with e | e
      · omega
      · rw [e, w64_in (by omega)]; omega
  have hRp : tr.root = 0 ∨ 0 < ((D.decC tl.root).dec tr.root).cnt tr.root := by
    rcases hr0 with e | ⟨e1, e2, e3, e4⟩
    · exact Or.inl e
    · right
      show 0 < upd (D.decC tl.root).cnt tr.root (w64 ((D.decC tl.root).cnt tr.root - 1)) tr.root
      rw [upd_same]
      rcases dLr with e | e
      · omega
      · rw [e, w64_in (by omega)]; omega
  have hadd : ∀ (g : Nat → Nat) (j i : Nat), addH g j i ≤ g i + 1 := fun g j i => by unfold addH eq01; split <;> omega
  have hsndF : ∀ (g : Nat → Nat) (N : Nat), (∀ i, g i ≤ N) → N + (ll ++ (k, v) :: lr).length ≤ 500000000 → Sound A g → Sound ((D.decC tl.root).decC tr.root) (addH g (C.fresh + 1)) := by
    intro g N hN hlN s
    have hlen : (ll ++ (k, v) :: lr).length = ll.length + 1 + lr.length := by simp; omega
    have s1 := h1.snd g N hN (by omega) s
    have s2 := h2.snd _ (N + 1) (fun i => by have := hadd g tl.root i; have := hN i; omega) (by omega) s1
    have s3 := hsm _ (fun i => by have := hadd (addH g tl.root) tr.root i; have := hadd g tl.root i; have := hN i; omega) s2
    have s3' : Sound D (addH (addH (addH g (C.fresh + 1)) tr.root) tl.root) := s3.congr fun i _ => by unfold addH; omega
    have s4 := s3'.decC (by have := hadd (addH g (C.fresh + 1)) tr.root tl.root; have := hadd g (C.fresh + 1) tl.root; have := hN tl.root; omega) hLp
    exact s4.decC (by have := hadd g (C.fresh + 1) tr.root; have := hN tr.root; omega) hRp
  refine ⟨hE, by unfold AR.makeI; rw [hE, htop]; rfl, ?_, ?_, ?_⟩
  · rcases hl0 with e | ⟨e1, e2, e3, e4⟩
    · exact Or.inl e
    · right
      refine ⟨(hused _ (by omega)).trans e4, ?_⟩
      show 0 < upd D.cnt tl.root (w64 (D.cnt tl.root - 1)) tl.root
      rw [upd_same]
      rcases cL with e | e
      · omega
      · rw [e, w64_in (by omega)]; omega
  · rcases hr0 with e | ⟨e1, e2, e3, e4⟩
    · exact Or.inl e
    · right
      refine ⟨?_, ?_⟩
      · rw [(decC_eqs D tl.root).2.2.2.2.1]
        exact (hused _ (by omega)).trans e4
      · show 0 < upd (D.decC tl.root).cnt tr.root (w64 ((D.decC tl.root).cnt tr.root - 1)) tr.root
        rw [upd_same]
        rcases dLr with e | e
        · omega
        · rw [e, w64_in (by omega)]; omega
  obtain ⟨p1, p2, p3, p4, p5, p6⟩ := decC_eqs D tl.root
  obtain ⟨q1, q2, q3, q4, q5, q6⟩ := decC_eqs (D.decC tl.root) tr.root
  have hD : D.cap = C.cap ∧ D.rel = [] ∧ D.fresh = C.fresh + 1 ∧ D.reads = C.reads := by
    rw [eM]
    refine ⟨rfl, ?_, ?_, rfl⟩
    · show C.rel.dropLast = []; rw [h2.rel]; rfl
    · show (if C.rel = [] then C.fresh + 1 else C.fresh) = _; rw [if_pos h2.rel]
  have hfin : ∀ i, 1 ≤ i → i ≤ C.fresh → ((D.decC tl.root).decC tr.root).cnt i = C.cnt i := by
    intro i hi1 hi2
    by_cases eL : i = tl.root
    · have hne : i ≠ tr.root := by rcases hr0 with e | ⟨f1, f2, _, _⟩ <;> rcases hl0 with e' | ⟨g1, g2, _, _⟩ <;> omega
      have : ((D.decC tl.root).decC tr.root).cnt i = (D.decC tl.root).cnt i := by
        unfold AR.decC; split
        · rfl
        · show upd _ tr.root _ i = _; rw [upd_ne _ _ hne]
      rw [this]
      unfold AR.decC
      rw [if_neg (by omega)]
      show upd D.cnt tl.root (w64 (D.cnt tl.root - 1)) i = _
      rcases cL with e | e
      · omega
      · rcases hl0 with e' | ⟨g1, g2, g3, _⟩
        · omega
        · rw [eL, upd_same, e, g3, w64_in (by omega)]; rfl
    · have e1 : (D.decC tl.root).cnt i = D.cnt i := by
        unfold AR.decC; split
        · rfl
        · show upd _ tl.root _ i = _; rw [upd_ne _ _ eL]
      by_cases eR : i = tr.root
      · subst eR
        rcases dLr with e | e
        · omega
        · rcases hr0 with e' | ⟨g1, g2, g3, _⟩
          · omega
          · have : ((D.decC tl.root).decC tr.root).cnt tr.root = w64 ((D.decC tl.root).cnt tr.root - 1) := by
              rw [decC_cnt, if_neg (by omega), upd_same]
            rw [this, e, g3, w64_in (by omega)]; rfl
      · have e2 : ((D.decC tl.root).decC tr.root).cnt i = (D.decC tl.root).cnt i := by
          rw [decC_cnt]
          split
          · rfl
          · rw [upd_ne _ _ eR]
        rw [e2, e1]
        exact cO i eL eR (by omega)
  have hcT : ((D.decC tl.root).decC tr.root).cnt (C.fresh + 1) = 1 := by
    have nL : C.fresh + 1 ≠ tl.root := by rcases hl0 with e | ⟨f1, f2, _, _⟩ <;> omega
    have nR : C.fresh + 1 ≠ tr.root := by rcases hr0 with e | ⟨f1, f2, _, _⟩ <;> omega
    have e1 : (D.decC tl.root).cnt (C.fresh + 1) = D.cnt (C.fresh + 1) := by
      unfold AR.decC; split
      · rfl
      · show upd _ tl.root _ _ = _; rw [upd_ne _ _ nL]
    have e2 : ((D.decC tl.root).decC tr.root).cnt (C.fresh + 1) = (D.decC tl.root).cnt (C.fresh + 1) := by
      rw [decC_cnt]
      split
      · rfl
      · rw [upd_ne _ _ nR]
    rw [e2, e1, cT]
  have hu : ((D.decC tl.root).decC tr.root).used = D.used := q5.trans p5
  have hn : ((D.decC tl.root).decC tr.root).node = D.node := q6.trans p6
  generalize ((D.decC tl.root).decC tr.root) = E at *
  have hkE : ∀ i, C.used i = true → E.used i = true ∧ E.node i = C.node i := fun i hi => by
    have := hw.uf i hi
    rw [hu, hn]
    exact ⟨(hused i (by omega)).trans hi, hnode i (by omega)⟩
  have hlen : (ll ++ (k, v) :: lr).length = ll.length + 1 + lr.length := by simp; omega
  refine ⟨?_, h1.relA, by rw [q2, p2]; exact hD.2.1, ?_, ?_, fun i hi1 hi2 => ?_, by simp only [Tr.ents]; rw [h1.ent, h2.ent], ⟨by omega, by rw [hu]; exact husedT, ?_, iL.keep hkE, iR.keep hkE⟩, ⟨by rw [sl, sr]; exact hb, h1.bal, h2.bal⟩, Or.inr ⟨?_, ?_, hcT⟩, hsndF⟩
  · rw [q1, p1, hD.1, h2.cap, h1.cap]
  · rw [q3, p3, hD.2.2.1, hlC, hlB, hlen]; omega
  · rw [q4, p4, hD.2.2.2, h2.reads, h1.reads]
  · obtain ⟨a1, a2, a3⟩ := h1.old i hi1 hi2
    obtain ⟨b1, b2, b3⟩ := h2.old i hi1 (by omega)
    rw [hu, hn, hused i (by omega), hnode i (by omega), hfin i hi1 (by omega)]
    exact ⟨b1.trans a1, b2.trans a2, b3.trans a3⟩
  · rw [hn, hnodeT]
    refine (mkN_congr' ?_ ?_).symm
    · rcases iL.or with e | e
      · exact Or.inl e
      · exact Or.inr (hkE _ e).2
    · rcases iR.or with e | e
      · exact Or.inl e
      · exact Or.inr (hkE _ e).2
  · show A.fresh < C.fresh + 1; omega
  · show C.fresh + 1 ≤ E.fresh; rw [q3, p3, hD.2.2.1]; omega

end Go.Proofs.Ytfaeboamjfdjlaa
