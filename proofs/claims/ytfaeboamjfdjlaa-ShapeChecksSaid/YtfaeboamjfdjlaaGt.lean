/-
  A tree, its list, and whatever else stays as it is while the tree is read.
-/
import Derived.Test.YtfaeboamjfdjlaaTa
import Derived.Test.YtfaeboamjfdjlaaDm
set_option linter.unusedVariables false
namespace Go.Proofs.Ytfaeboamjfdjlaa
open Go.Vc

/-- It stays if only the block 'p' and blocks from 'hi' on change. -/
def Stb (p hi : Nat) (F : World → Prop) : Prop := ∀ w w', F w → Fr (fun b => b = p ∨ hi ≤ b) w w' → F w'
theorem Stb.and {p hi : Nat} {F G : World → Prop} (h : Stb p hi F) (h' : Stb p hi G) : Stb p hi (fun w => F w ∧ G w) := fun w w' hf f => ⟨h w w' hf.1 f, h' w w' hf.2 f⟩
theorem Stb.up {p hi hi' : Nat} {F : World → Prop} (h : Stb p hi F) (hl : hi ≤ hi') : Stb p hi' F := fun w w' hf f => h w w' hf (f.mono fun b e => by omega)
theorem Stb.true {p hi : Nat} : Stb p hi (fun _ => True) := fun _ _ h _ => h
theorem Stb.at {p hi b : Nat} {C : List Value} {T : TypeId} (h1 : b ≠ p) (h2 : b < hi) : Stb p hi (fun w => At w b C T) := fun w w' h f => h.fr f (by omega)
theorem Stb.rdc {p hi bk : Nat} {cs : List Value} (h1 : bk ≠ p) (h2 : bk < hi) : Stb p hi (fun w => RdC w (some ⟨bk, 0, none⟩) cs) := fun w w' h f => h.fr f fun b o e hb => by simp only [Option.some.injEq, Addr.mk.injEq] at e; omega

/-- The dump lies in blocks from 'lo' to 'hi'. -/
def DpB (w : World) (lo hi : Nat) (v : Value) (D : Dp) : Prop :=
  ∃ s1 c1 s2 c2, v = .agg ⟨[.slice s1 D.slots.length c1, .slice s2 D.free.length c2]⟩ ∧ (D.slots.length ≤ c1 ∧ RdC w s1 (D.slots.flatMap Slt.cells) ∧ ∀ b o, s1 = some ⟨b, o, none⟩ → D.slots ≠ [] → lo ≤ b ∧ b < hi) ∧ (D.free.length ≤ c2 ∧ RdC w s2 (D.free.flatMap u32c) ∧ ∀ b o, s2 = some ⟨b, o, none⟩ → D.free ≠ [] → lo ≤ b ∧ b < hi)
theorem DpAt.b {w : World} {lo : Nat} {v : Value} {D : Dp} (h : DpAt w lo v D) : DpB w lo w.heap.size v D := by
  obtain ⟨sv, fv, rfl, ⟨s1, c1, rfl, h1⟩, ⟨s2, c2, rfl, h2⟩⟩ := h
  exact ⟨s1, c1, s2, c2, rfl, h1, h2⟩
theorem DpB.dp {w : World} {lo hi : Nat} {v : Value} {D : Dp} (h : DpB w lo hi v D) (hh : hi ≤ w.heap.size) : DpAt w lo v D := by
  obtain ⟨s1, c1, s2, c2, rfl, ⟨a1, a2, a3⟩, ⟨b1, b2, b3⟩⟩ := h
  exact ⟨_, _, rfl, ⟨s1, c1, rfl, a1, a2, fun b o e hn => by have := a3 b o e hn; omega⟩, ⟨s2, c2, rfl, b1, b2, fun b o e hn => by have := b3 b o e hn; omega⟩⟩
theorem DpB.fr {w w' : World} {lo hi : Nat} {v : Value} {D : Dp} {S : Nat → Prop} (h : DpB w lo hi v D) (f : Fr S w w') (hS : ∀ b, lo ≤ b → b < hi → ¬ S b) : DpB w' lo hi v D := by
  obtain ⟨s1, c1, s2, c2, rfl, ⟨a1, a2, a3⟩, ⟨b1, b2, b3⟩⟩ := h
  refine ⟨s1, c1, s2, c2, rfl, ⟨a1, ?_, a3⟩, ⟨b1, ?_, b3⟩⟩
  · by_cases hx : D.slots = []
    · rw [hx]; intro j u hj; simp at hj
    · exact a2.fr f fun b o e => hS b (a3 b o e hx).1 (a3 b o e hx).2
  · by_cases hx : D.free = []
    · rw [hx]; intro j u hj; simp at hj
    · exact b2.fr f fun b o e => hS b (b3 b o e hx).1 (b3 b o e hx).2
theorem Stb.dp {p hi l h : Nat} {v : Value} {D : Dp} (h1 : p < l) (h2 : h ≤ hi) : Stb p hi (fun w => DpB w l h v D) := fun w w' hd f => hd.fr f fun b h3 h4 e => by omega

structure Gt (w w1 : World) (lo p : Nat) (q : AP) (t : Tr) (a : List (Int × Int)) (lv : Value) (hi : Nat) (F : World → Prop) (w' : World) (B : AR) : Prop where
  g : TreeAt w w' lo p q B t
  ha : RdU w' w1.heap.size lv entC a
  hs : hi ≤ w'.heap.size
  h0 : w.heap.size ≤ hi
  h1 : w1.heap.size ≤ p
  hp : p < hi
  fp : ∀ b, q.fp b → b < hi
  hF : F w'
  st : Stb p hi F

theorem Gt.fr {w w1 w' w'' : World} {lo p : Nat} {q : AP} {t : Tr} {a : List (Int × Int)} {lv : Value} {hi : Nat} {F : World → Prop} {B : AR} (h : Gt w w1 lo p q t a lv hi F w' B) (hf : Fr (fun b => hi ≤ b) w' w'') : Gt w w1 lo p q t a lv hi F w'' B :=
  ⟨⟨h.g.ar.fr hf (fun b hb e => by have := h.fp b hb; omega), h.g.inA, h.g.srt, h.g.ine, h.g.bal, h.g.sz, h.g.pb, (h.g.ext.trans' hf fun b hb e => by have := h.h0; omega), h.g.snd, h.g.lof.1, Nat.le_trans h.g.lof.2.1 hf.size, h.g.lof.2.2⟩,
   h.ha.fr hf (fun b hb e => by have := h.h1; have := h.hp; omega), Nat.le_trans h.hs hf.size, h.h0, h.h1, h.hp, h.fp, h.st _ _ h.hF (hf.mono fun b e => Or.inr e), h.st⟩
theorem Gt.ext {w w1 w' w'' : World} {lo p : Nat} {q : AP} {t : Tr} {a : List (Int × Int)} {lv : Value} {hi : Nat} {F : World → Prop} {B : AR} (h : Gt w w1 lo p q t a lv hi F w' B) (hf : Ext w' w'') : Gt w w1 lo p q t a lv hi F w'' B := h.fr (hf.mono fun _ e => e.elim)
theorem Gt.rd {w w1 w' w'' : World} {lo p : Nat} {q : AP} {t : Tr} {a : List (Int × Int)} {lv : Value} {hi n : Nat} {F : World → Prop} {B : AR} (h : Gt w w1 lo p q t a lv hi F w' B) (hR : ∃ B', ArP w'' lo p q B' ∧ Rds B B' n ∧ Fr (fun b => b = p) w' w'') :
    ∃ B', Gt w w1 lo p q t a lv hi F w'' B' ∧ Rds B B' n ∧ Fr (fun b => b = p) w' w'' := by
  obtain ⟨B', g', hB, hf⟩ := h.g.rd hR
  exact ⟨B', ⟨g', RdU.rd h.ha hf h.h1, Nat.le_trans h.hs hf.size, h.h0, h.h1, h.hp, h.fp, h.st _ _ h.hF (hf.mono fun b e => Or.inl e), h.st⟩, hB, hf⟩
/-- More is known that stays. -/
theorem Gt.up {w w1 w' : World} {lo p : Nat} {q : AP} {t : Tr} {a : List (Int × Int)} {lv : Value} {hi : Nat} {F : World → Prop} {B : AR} (h : Gt w w1 lo p q t a lv hi F w' B) (hi' : Nat) (h1 : hi ≤ hi') (h2 : hi' ≤ w'.heap.size) (G : World → Prop) (hG : G w') (hst : Stb p hi' G) : Gt w w1 lo p q t a lv hi' (fun w => F w ∧ G w) w' B :=
  ⟨h.g, h.ha, h2, Nat.le_trans h.h0 h1, h.h1, Nat.lt_of_lt_of_le h.hp h1, fun b hb => Nat.lt_of_lt_of_le (h.fp b hb) h1, ⟨h.hF, hG⟩, (h.st.up h1).and hst⟩
theorem Gt.hi {w w1 w' : World} {lo p : Nat} {q : AP} {t : Tr} {a : List (Int × Int)} {lv : Value} {hi : Nat} {F : World → Prop} {B : AR} (h : Gt w w1 lo p q t a lv hi F w' B) (hi' : Nat) (h1 : hi ≤ hi') (h2 : hi' ≤ w'.heap.size) : Gt w w1 lo p q t a lv hi' F w' B :=
  ⟨h.g, h.ha, h2, Nat.le_trans h.h0 h1, h.h1, Nat.lt_of_lt_of_le h.hp h1, fun b hb => Nat.lt_of_lt_of_le (h.fp b hb) h1, h.hF, h.st.up h1⟩
theorem Gt.lo {w w1 w' : World} {lo p : Nat} {q : AP} {t : Tr} {a : List (Int × Int)} {lv : Value} {hi hi' : Nat} {F : World → Prop} {B : AR} (h : Gt w w1 lo p q t a lv hi' F w' B) (h' : hi ≤ hi') (h0 : w.heap.size ≤ hi) (h2 : p < hi) (h3 : ∀ b, q.fp b → b < hi) (hst : Stb p hi F) : Gt w w1 lo p q t a lv hi F w' B :=
  ⟨h.g, h.ha, Nat.le_trans h' h.hs, h0, h.h1, h2, h3, h.hF, hst⟩
theorem Gt.of {w w1 w' : World} {lo p : Nat} {q : AP} {t : Tr} {a : List (Int × Int)} {lv : Value} {B : AR} (g : TreeAt w w' lo p q B t) (ha : RdU w' w1.heap.size lv entC a) (h1 : w1.heap.size ≤ p) : Gt w w1 lo p q t a lv w'.heap.size (fun _ => True) w' B :=
  ⟨g, ha, Nat.le_refl _, g.ext.size, h1, g.ar.lt p g.ar.fpp, g.ar.lt, trivial, Stb.true⟩
theorem Gt.weak {w w1 w' : World} {lo p : Nat} {q : AP} {t : Tr} {a : List (Int × Int)} {lv : Value} {hi : Nat} {F G : World → Prop} {B : AR} (h : Gt w w1 lo p q t a lv hi F w' B) (hG : G w') (hst : Stb p hi G) : Gt w w1 lo p q t a lv hi G w' B :=
  ⟨h.g, h.ha, h.hs, h.h0, h.h1, h.hp, h.fp, hG, hst⟩

theorem TreeAt.hgt' {w0 w : World} {lo p : Nat} {q : AP} {B : AR} {t : Tr} (g : TreeAt w0 w lo p q B t) {n : Nat} (hn : t.sz = n) : ∃ m : Nat, maxHeight (n : Int) = m ∧ m < 80 ∧ t.ht ≤ m := by
  have hs := g.sz
  obtain ⟨m, e, h1, h2, h3⟩ := maxHeight_spec (n := (n : Int)) (by omega) (by omega)
  refine ⟨m, e, h1, ?_⟩
  have h4 := Tr.wt_le g.bal
  have : t.ht < m + 1 := wt_lt (by omega)
  omega
theorem Rds.leq {A B : AR} {n k : Nat} (h : Rds A B n) (h1 : A.reads ≤ k) (h2 : k + n ≤ 1000000000) : A.reads ≤ B.reads ∧ B.reads ≤ A.reads + n := h.le (by omega)
theorem Rds.dumpE {A B : AR} {n : Nat} (h : Rds A B n) : B.dump = A.dump := by rw [h.eq]; rfl
theorem ent_eq' (a b : Int) : eqL [.int .i64 a, .int .i64 b] [.int .i64 a, .int .i64 b] = true := by simp [eqL]
theorem dump_len {A : AR} (hwf : Wf A) : A.dump.slots.length ≤ 1000000 ∧ A.dump.free.length ≤ 1000000 := by
  have hcM := hwf.capM
  refine ⟨by simp [AR.dump]; omega, ?_⟩
  show A.order.length ≤ _
  rw [order_len hwf]
  have := rel_le hwf
  unfold AR.free; omega

end Go.Proofs.Ytfaeboamjfdjlaa
