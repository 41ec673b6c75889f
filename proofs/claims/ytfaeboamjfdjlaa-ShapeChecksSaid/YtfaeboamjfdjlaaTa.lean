/-
  A tree that was made out of any list of entries; the functions that read it.
-/
import Derived.Test.YtfaeboamjfdjlaaRr
import Derived.Test.YtfaeboamjfdjlaaLi
set_option linter.unusedVariables false
namespace Go.Proofs.Ytfaeboamjfdjlaa
open Go.Vc

/-- The tree 't' lies in the arena at 'p', which was made behind the world 'w0'. -/
structure TreeAt (w0 w : World) (lo p : Nat) (q : AP) (B : AR) (t : Tr) : Prop where
  ar : ArP w lo p q B
  inA : InA B t
  srt : Srt t.ents
  ine : InE t.ents
  bal : t.bal
  sz : t.sz ≤ 1000
  pb : w0.heap.size ≤ p
  ext : Ext w0 w
  snd : Sound B (fun i => eq01 t.root i)
  lof : (∀ b, q.fp b → lo ≤ b) ∧ lo ≤ w.heap.size ∧ w0.heap.size ≤ lo

theorem Rds.snd {A B : AR} {n : Nat} {h : Nat → Nat} (r : Rds A B n) (s : Sound A h) : Sound B h := by
  rw [r.eq]
  exact ⟨s.wf.congr rfl rfl rfl rfl rfl, ⟨s.ok.ch, s.ok.sz⟩, s.cnt, s.pos, s.hz, s.kid, s.agg, s.zero⟩

theorem TreeAt.step {w0 w w' : World} {lo p : Nat} {q : AP} {B : AR} {t : Tr} (g : TreeAt w0 w lo p q B t) (hx : Ext w w') : TreeAt w0 w' lo p q B t :=
  ⟨g.ar.ext hx, g.inA, g.srt, g.ine, g.bal, g.sz, g.pb, g.ext.trans hx, g.snd, g.lof.1, Nat.le_trans g.lof.2.1 hx.size, g.lof.2.2⟩

theorem TreeAt.rd {w0 w w' : World} {lo p : Nat} {q : AP} {B : AR} {t : Tr} {n : Nat} (g : TreeAt w0 w lo p q B t) (h : ∃ B', ArP w' lo p q B' ∧ Rds B B' n ∧ Fr (fun b => b = p) w w') :
    ∃ B', TreeAt w0 w' lo p q B' t ∧ Rds B B' n ∧ Fr (fun b => b = p) w w' := by
  obtain ⟨B', ha, hB, hf⟩ := h
  exact ⟨B', ⟨ha, hB.inA g.inA, g.srt, g.ine, g.bal, g.sz, g.pb, (g.ext.trans' hf fun b hb e => by have := g.pb; omega), hB.snd g.snd, g.lof.1, Nat.le_trans g.lof.2.1 hf.size, g.lof.2.2⟩, hB, hf⟩

theorem TreeAt.sz6 {w0 w : World} {lo p : Nat} {q : AP} {B : AR} {t : Tr} (g : TreeAt w0 w lo p q B t) : t.sz ≤ 1000000 := Nat.le_trans g.sz (by omega)

/-- A list that lies below the arena stays. -/
theorem RdU.rd {α : Type} {w w' : World} {hi p : Nat} {v : Value} {enc : α → List Value} {xs : List α} (h : RdU w hi v enc xs) (f : Fr (fun b => b = p) w w') (hp : hi ≤ p) : RdU w' hi v enc xs :=
  h.fr f fun b hb e => by omega

end Go.Proofs.Ytfaeboamjfdjlaa
