/-
  The program's arena and the reference's side by side.
-/
import Derived.Test.YtapocbahkeoeoaaRq
import Derived.Test.YtapocbahkeoeoaaL5e
import Derived.Test.YtapocbahkeoeoaaNa
set_option linter.unusedVariables false
namespace Go.Proofs.Ytapocbahkeoeoaa
open Go.Vc

theorem RfAt.low {w : World} {lo lo' r : Nat} {V : RV} {A : AR} (h : RfAt w lo r V A) (hl : lo' ≤ lo) : RfAt w lo' r V A :=
  ⟨h.hr, h.hn, h.hc, h.hs.mono hl, h.hg.mono hl, h.ho.mono hl, ⟨Nat.le_trans hl h.los.1, Nat.le_trans hl h.los.2.1, Nat.le_trans hl h.los.2.2⟩, h.ap, h.bl, h.wf⟩

structure Tw (w0 w : World) (lo p r : Nat) (q : AP) (V : RV) (A B : AR) : Prop where
  ar : ArP w lo p q A
  rf : RfAt w lo r V B
  dis : ∀ b, RfB r V b → ¬ q.fp b
  lof : ∀ b, q.fp b → lo ≤ b
  los : lo ≤ w.heap.size
  x : Ext w0 w
  lo0 : w0.heap.size ≤ lo

theorem Tw.ext {w0 w w' : World} {lo p r : Nat} {q : AP} {V : RV} {A B : AR} (g : Tw w0 w lo p r q V A B) (f : Ext w w') : Tw w0 w' lo p r q V A B :=
  ⟨g.ar.ext f, g.rf.ext f, g.dis, g.lof, Nat.le_trans g.los f.size, g.x.trans f, g.lo0⟩
theorem Tw.stA {w0 w w' : World} {lo p r : Nat} {q q' : AP} {V : RV} {A B A' : AR} (g : Tw w0 w lo p r q V A B) (a : ArP w' lo p q' A') (hq : ∀ b, q'.fp b → q.fp b ∨ w.heap.size ≤ b) (f : Fr q.fp w w') : Tw w0 w' lo p r q' V A' B := by
  refine ⟨a, g.rf.fr f (fun b hb e => g.dis b hb e), fun b hb e => ?_, fun b hb => ?_, Nat.le_trans g.los f.size, g.x.trans' f fun b hb e => ?_, g.lo0⟩
  · rcases hq b e with h | h
    · exact g.dis b hb h
    · have := g.rf.lt b hb; omega
  · rcases hq b hb with h | h
    · exact g.lof b h
    · have := g.los; omega
  · have := g.lof b e; have := g.lo0; omega
theorem Tw.stA' {w0 w w' : World} {lo p r : Nat} {q : AP} {V : RV} {A B A' : AR} (g : Tw w0 w lo p r q V A B) (a : ArP w' lo p q A') (f : Fr (fun b => b = p) w w') : Tw w0 w' lo p r q V A' B :=
  g.stA a (fun b hb => Or.inl hb) (f.mono fun b e => e ▸ g.ar.fpp)
theorem Tw.stB {w0 w w' : World} {lo p r : Nat} {q : AP} {V V' : RV} {A B B' : AR} (g : Tw w0 w lo p r q V A B) (b : RfAt w' lo r V' B') (G : RGr r V V' w w') : Tw w0 w' lo p r q V' A B' := by
  have hS : ∀ b, (b = r ∨ b = V.nb ∨ b = V.cb) → RfB r V b := by
    rintro b (e | e | e)
    · exact Or.inl e
    · exact Or.inr (Or.inl e)
    · exact Or.inr (Or.inr (Or.inl e))
  refine ⟨g.ar.fr G.fr (fun b hb e => g.dis b (hS b e) hb), b, fun b hb e => ?_, g.lof, Nat.le_trans g.los G.fr.size, g.x.trans' G.fr fun b hb e => ?_, g.lo0⟩
  · rcases G.nw b hb with h | h
    · exact g.dis b h e
    · have := g.ar.lt b e; omega
  · have h1 := g.rf.los; have := g.lo0
    rcases e with e | e | e <;> omega
theorem Tw.stB' {w0 w w' : World} {lo p r : Nat} {q : AP} {V : RV} {A B B' : AR} (g : Tw w0 w lo p r q V A B) (b : RfAt w' lo r V B') (f : Fr (fun b => b = r) w w') : Tw w0 w' lo p r q V A B' :=
  g.stB b ⟨fun b hb => Or.inl hb, f.mono fun b e => Or.inl e, rfl, rfl⟩

/-- What the two hold in common behind 'k' steps. -/
structure Cm2 (A : AR) (h : Nat → Nat) (k : Nat) : Prop where
  snd : Sound A h
  hb : ∀ i, h i ≤ k
  z : ∀ i, 1 ≤ i → A.used i = false → A.cnt i = 0
  g0 : A.gen 0 = 0
theorem Cm2.mono {A : AR} {h : Nat → Nat} {k m : Nat} (c : Cm2 A h k) (hk : k ≤ m) : Cm2 A h m := ⟨c.snd, fun i => Nat.le_trans (c.hb i) hk, c.z, c.g0⟩
theorem addH_le (h : Nat → Nat) (i j k : Nat) (hb : h j ≤ k) : addH h i j ≤ k + 1 := by unfold addH eq01; split <;> omega
theorem Cm2.new {n : Nat} (h1 : 1 ≤ n) (h2 : n ≤ 65536) : Cm2 (AR.new n) (fun _ => 0) 0 := ⟨Sound.new h1 h2, fun _ => Nat.le_refl _, fun _ _ _ => rfl, rfl⟩
theorem Cm2.read {A : AR} {h : Nat → Nat} {k : Nat} (c : Cm2 A h k) (i : Nat) : Cm2 (A.read i) h k := by
  unfold AR.read
  split
  · exact ⟨⟨c.snd.wf.congr rfl rfl rfl rfl rfl, ⟨c.snd.ok.ch, c.snd.ok.sz⟩, c.snd.cnt, c.snd.pos, c.snd.hz, c.snd.kid, c.snd.agg, c.snd.zero⟩, c.hb, c.z, c.g0⟩
  · exact c
theorem Cm2.retain {A : AR} {h : Nat → Nat} {k : Nat} (c : Cm2 A h k) (hk : k ≤ 100000) (i : Nat) : ∃ h', Cm2 (A.retain i) h' (k + 1) := by
  unfold AR.retain
  split
  · rename_i hi
    refine ⟨addH h i, c.snd.inc hi.2 (by have := c.hb i; omega), fun j => addH_le h i j k (c.hb j), fun j hj hu => ?_, c.g0⟩
    have hu : A.used j = false := hu
    have e : j ≠ i := fun e => by rw [e, hi.2] at hu; cases hu
    show upd A.cnt i _ j = 0
    rw [upd_ne _ _ e]; exact c.z j hj hu
  · exact ⟨h, c.mono (by omega)⟩
theorem Cm2.make {A : AR} {h : Nat → Nat} {k : Nat} (c : Cm2 A h k) (hk : k ≤ 100000) (ky v : Int) (l r : Nat) : ∃ h', Cm2 (A.make ky v l r) h' (k + 1) := by
  by_cases hE : A.makeE ky v l r = 0
  · refine ⟨addH h A.top, c.snd.make (fun i => by have := c.hb i; omega) hE, fun j => addH_le h _ j k (c.hb j), make_z c.z, ?_⟩
    obtain ⟨_, _, _, hf⟩ := makeE_zero hE
    have ht := (c.snd.wf.top_bd hf).1
    rw [make_eq hE]
    show upd A.gen A.top _ 0 = 0
    rw [upd_ne _ _ (by omega)]; exact c.g0
  · unfold AR.make
    rw [if_neg hE]
    exact ⟨h, c.mono (by omega)⟩
theorem Cm2.ct {A : AR} {h : Nat → Nat} {k : Nat} (c : Cm2 A h k) (hk : k ≤ 100000) : CtOk A := c.snd.ct (fun i => by have := c.hb i; omega) c.z
/-- The last reference that is held is given back. -/
theorem Cm2.rel {A : AR} {h : Nat → Nat} {k : Nat} (c : Cm2 A h k) (hk : k ≤ 100000) {i : Nat} (hu : A.used i = true) (hne : (edges A i : Int) ≠ A.countOf i) : ∃ s B n h', RelN s A [i] B n ∧ Cm2 B h' k ∧ s ≤ 1000000 ∧ n ≤ 1000000 := by
  have h1 := (c.snd.wf.uf i hu).1
  have hcnt := c.snd.cnt i hu
  have hhi : 1 ≤ h i := by
    unfold AR.countOf at hne
    rw [if_pos hu, hcnt] at hne
    omega
  obtain ⟨h', hh'⟩ : ∃ h' : Nat → Nat, h' = fun j => if j = i then h i - 1 else h j := ⟨_, rfl⟩
  have hsum : ∀ j, h j = h' j + [i].count j := fun j => by
    rw [hh', List.count_singleton]
    by_cases e : j = i
    · subst e; simp; omega
    · simp [e, show ¬ i = j from fun e2 => e e2.symm]
  have hun := usedN_le A
  have hcM := c.snd.wf.capM
  obtain ⟨s, B, n, hR, hS, e1, e2, e3, e4, e5, e6, e7⟩ := Sound.rel (3 * usedN A + 1) A h' [i] (c.snd.congr fun j _ => hsum j) (by intro k hk; simp at hk; omega) (by simp) (fun j => by
    have := edges_le c.snd.wf j
    have := c.hb j
    have := hsum j
    omega)
  have hct := CtOk.rel s A B [i] n hR (c.ct hk)
  refine ⟨s, B, n, h', hR, ⟨hS, fun j => ?_, hct.z, by rw [e7]; exact c.g0⟩, by omega, by omega⟩
  have := c.hb j
  have := hsum j
  omega

end Go.Proofs.Ytapocbahkeoeoaa
