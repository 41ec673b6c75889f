/-
  Lemmas and contracts of functions, no condition: the texts Vc Facts Fin F1 F4.
-/
import Derived.WalkKit
import Derived.Deep.Quiet
import Derived.StillTail
import Derived.Laws.StructEq
import Derived.Test.YteghhalnpdikoaaChecked
import Derived.ProofKit
import Derived.OpenShut
set_option linter.unusedVariables false

namespace Go.Vc

/-- The call returns, and so. -/
def Ret (Φ : Value → World → Prop) (e : Ending) (w : World) : Prop := ∃ v, e = .returned v ∧ Φ v w

/-! ## Regions that draw their order: calls and writes in a chain, reads that hold in every world of a class -/

/-- By its kind: an operation that leaves the world alone. -/
def quietK : Op → Bool
  | .move _ | .assign _ | .pick .. | .build .. | .load .. | .nilCheck _ | .binOp .. | .unOp .. | .convert .. | .fieldAddr .. | .field .. | .indexAddr .. | .index .. | .extract .. | .slice .. | .makeFunc .. | .makeInterface .. => true
  | .call c => match c.callee with
    | .builtin .len | .builtin .min | .builtin .max | .builtin .cap => true
    | _ => false
  | _ => false

def EffAt (P : Program) (o : Oper) (a : Act) (w : World) (Φ : Value → World → Prop) : Prop :=
  match (execOp a.eval o).run P w with
  | .ok (.value v) w' => Φ v w'
  | .ok .skip w' => Φ undef w'
  | .ok (.enter f args) w' => Calls P f args w' (Ret Φ)
  | _ => False

def Closed (ops : Array Oper) (listed : Array Bool) : Prop :=
  listed.size = ops.size ∧ ∀ j oj, ops[j]? = some oj → listed.getD j false = true → ∀ e ∈ oj.after, Region.binds .any e = true → listed.getD e.on false = true

/-- Held back as long as 'i' has not come up. -/
def Blk (ops : Array Oper) (i j : Nat) : Prop :=
  ∀ listed, Closed ops listed → listed.getD i false = false → listed.getD j false = false ∧ j ∉ Region.ready .any ops listed

/-- Two classes of worlds: 'D' holds for a while, 'E' to the end. -/
structure Dc where
  D : World → Prop
  E : World → Prop

/-- Till operation 'e' has come up, the world is of the class 'D'; it is always of the class 'E'. -/
def Till (D : Dc) (e : Nat) (listed : Array Bool) (w : World) : Prop := (listed.getD e false = true ∨ D.D w) ∧ D.E w

/-- The worlds in which operation 'i' may come up. -/
def Near (ops : Array Oper) (D : Dc) (e i : Nat) (w : World) : Prop := (Blk ops i e → D.D w) ∧ D.E w

def stepE (P : Program) (ops : Array Oper) (D : Dc) (e : Nat) (listed : Array Bool) (i : Nat) (K : Act → World → Prop) (a : Act) (w : World) : Prop :=
  match ops[i]? with
  | none => i ≠ e ∧ K a w
  | some o => if Region.wanted o (yielded ops a.tmps) then
      (if quietK o.op then i ≠ e ∧ ∃ v, (∀ w', Near ops D e i w' → (execOp a.eval o).run P w' = .ok (.value v) w') ∧ K (a.put o.dst v) w
       else ∃ Φ : Value → World → Prop, EffAt P o a w Φ ∧ ∀ v w', Φ v w' → Till D e (listed.setIfInBounds i true) w' ∧ K (a.put o.dst v) w')
    else i ≠ e ∧ K (a.put o.dst undef) w

def wpE (P : Program) (ops : Array Oper) (D : Dc) (e : Nat) (Q : Act → World → Prop) : Nat → Array Bool → Act → World → Prop
  | 0, listed, a, w => Region.ready .any ops listed = [] ∧ Q a w
  | fuel + 1, listed, a, w =>
    (Region.ready .any ops listed = [] → Q a w) ∧
    ∀ i ∈ Region.ready .any ops listed, stepE P ops D e listed i (wpE P ops D e Q fuel (listed.setIfInBounds i true)) a w

section draw
variable {P : Program} {ops : Array Oper} {D : Dc} {e : Nat} {Q : Act → World → Prop}

theorem EffAt.some {o : Oper} {a : Act} {w : World} {Φ : Value → World → Prop} (h : EffAt P o a w Φ) : ∃ v w', Φ v w' := by
  unfold EffAt at h
  split at h
  · exact ⟨_, _, h⟩
  · exact ⟨_, _, h⟩
  · obtain ⟨e, w', fr, ⟨v, _, hv⟩, _⟩ := h []
    exact ⟨v, w', hv⟩
  · exact h.elim

theorem EffAt.wp {o : Oper} {a : Act} {w : World} {Φ : Value → World → Prop} (h : EffAt P o a w Φ) {next : Act → World → Prop} {Q' : Exit → Act → World → Prop}
    (hn : ∀ v w', Φ v w' → next (a.put o.dst v) w') : o.wp P a w next Q' := by
  unfold EffAt at h
  unfold Oper.wp
  generalize (execOp a.eval o).run P w = r at *
  cases r with
  | ok x w' =>
    cases x with
    | value v => exact hn _ _ h
    | skip => exact hn _ _ h
    | enter f args =>
      rw [Oper.upon_enter]
      refine Calls.mono h ?_
      rintro e w'' ⟨v, rfl, hv⟩
      exact hn _ _ hv
    | _ => exact h.elim
  | halt x w' => exact h.elim

theorem Till.set {listed : Array Bool} {w : World} {j : Nat} (h : Till D e listed w) : Till D e (listed.setIfInBounds j true) w :=
  ⟨h.1.imp (fun h => getD_set_true h) id, h.2⟩

theorem Till.unset {listed : Array Bool} {w : World} {j : Nat} (hj : j ≠ e) (h : Till D e (listed.setIfInBounds j true) w) : Till D e listed w :=
  ⟨h.1.imp (fun h => by rwa [getD_set_ne false hj] at h) id, h.2⟩

theorem Till.near {listed : Array Bool} {w : World} {i : Nat} (hc : Closed ops listed) (hi : listed.getD i false = false) (h : Till D e listed w) : Near ops D e i w := by
  refine ⟨fun hb => ?_, h.2⟩
  rcases h.1 with h | h
  · rw [(hb listed hc hi).1] at h; cases h
  · exact h

theorem ready_unlisted {listed : Array Bool} {i : Nat} (h : i ∈ Region.ready .any ops listed) : listed.getD i false = false := by
  have := (mem_ready.1 h).1
  rcases Nat.lt_or_ge i listed.size with h' | h'
  · simp [h'] at this ⊢; exact this
  · simp [Array.getElem?_eq_none h']

theorem Closed.set {listed : Array Bool} {j : Nat} (h : Closed ops listed) (hj : j ∈ Region.ready .any ops listed) : Closed ops (listed.setIfInBounds j true) := by
  obtain ⟨_, oi, hoi, hall⟩ := mem_ready.1 hj
  refine ⟨by simpa using h.1, ?_⟩
  intro k ok hk hl e he hb
  by_cases hjk : j = k
  · subst hjk
    have : ok = oi := Option.some.inj (hk.symm.trans hoi)
    subst this
    exact getD_set_true (hall e he hb)
  · rw [getD_set_ne false hjk] at hl
    exact getD_set_true (h.2 k ok hk hl e he hb)

theorem stepE_mono {i : Nat} {listed : Array Bool} {a : Act} {w : World} {K K' : Act → World → Prop} (h : ∀ a w, K a w → K' a w) (hh : stepE P ops D e listed i K a w) : stepE P ops D e listed i K' a w := by
  unfold stepE at *
  split
  · rename_i ho; simp only [ho] at hh; exact ⟨hh.1, h _ _ hh.2⟩
  · rename_i o ho
    simp only [ho] at hh
    split
    · rename_i hw
      simp only [hw, if_true] at hh
      split
      · rename_i hq
        simp only [hq, if_true] at hh
        obtain ⟨hne, v, h1, h2⟩ := hh
        exact ⟨hne, v, h1, h _ _ h2⟩
      · rename_i hq
        simp only [hq] at hh
        obtain ⟨Φ, h1, h2⟩ := hh
        exact ⟨Φ, h1, fun v w' hv => ⟨(h2 v w' hv).1, h _ _ (h2 v w' hv).2⟩⟩
    · rename_i hw; simp only [hw] at hh; exact ⟨hh.1, h _ _ hh.2⟩

theorem wpAny_of_wpE {Q' : Exit → Act → World → Prop} (hQ : ∀ a w, Q a w → Q' .normal a w) : ∀ (fuel : Nat) (listed : Array Bool) (a : Act) (w : World), Closed ops listed → Till D e listed w →
    wpE P ops D e Q fuel listed a w → wpAny P .any ops Q' fuel listed a w
  | 0, _, _, _, _, _, h => ⟨h.1, hQ _ _ h.2⟩
  | fuel + 1, listed, a, w, hc, hw, h => ⟨fun h0 => hQ _ _ (h.1 h0), fun i hi => by
      have h1 := h.2 i hi
      have hc' := hc.set hi
      unfold stepE at h1
      unfold wpOp
      split
      · rename_i ho; simp only [ho] at h1; exact wpAny_of_wpE hQ fuel _ _ _ hc' hw.set h1.2
      · rename_i o ho
        simp only [ho] at h1
        split
        · rename_i hwt
          simp only [hwt, if_true] at h1
          refine .inl ?_
          split at h1
          · obtain ⟨_, v, h2, h3⟩ := h1
            unfold Oper.wp
            rw [h2 w (hw.near hc (ready_unlisted hi)), Oper.upon_value]
            exact wpAny_of_wpE hQ fuel _ _ _ hc' hw.set h3
          · obtain ⟨Φ, h2, h3⟩ := h1
            exact h2.wp fun v w' hv => wpAny_of_wpE hQ fuel _ _ _ hc' (h3 v w' hv).1 (h3 v w' hv).2
        · rename_i hwt
          simp only [hwt] at h1
          exact wpAny_of_wpE hQ fuel _ _ _ hc' hw.set h1.2⟩

/-- In this state, in every world of the class, the operation leaves 'v' in its slot and the world alone; or it is passed over. -/
def YieldsD (P : Program) (ops : Array Oper) (N : World → Prop) (o : Oper) (v : Value) (a : Act) : Prop :=
  (Region.wanted o (yielded ops a.tmps) = true ∧ quietK o.op = true ∧ ∀ w, N w → (execOp a.eval o).run P w = .ok (.value v) w) ∨
  (Region.wanted o (yielded ops a.tmps) = false ∧ v = undef)

theorem YieldsD.step {i : Nat} {listed : Array Bool} {o : Oper} {v : Value} {a : Act} {w : World} (hi : ops[i]? = some o) (hne : i ≠ e) (hy : YieldsD P ops (Near ops D e i) o v a) {K : Act → World → Prop} (h : K (a.put o.dst v) w) : stepE P ops D e listed i K a w := by
  unfold stepE
  simp only [hi]
  rcases hy with ⟨hw, hq, hv⟩ | ⟨hw, rfl⟩
  · simp only [hw, hq, if_true]; exact ⟨hne, v, hv, h⟩
  · simp only [hw, Bool.false_eq_true, if_false]; exact ⟨hne, h⟩

theorem YieldsD.of_same {N : World → Prop} {o : Oper} {v : Value} {a a' : Act} (hy : YieldsD P ops N o v a) (he : execOp a'.eval o = execOp a.eval o)
    (hw : Region.wanted o (yielded ops a'.tmps) = Region.wanted o (yielded ops a.tmps)) : YieldsD P ops N o v a' := by
  unfold YieldsD at *
  rw [he, hw]
  exact hy

/-- One operation 'oj', apart from the quiet 'oi'. -/
theorem stepE_put {N : World → Prop} {i j : Nat} {listed : Array Bool} {oi oj : Oper} {v : Value} (hne : i ≠ e) (hji : i ≠ j) (hj : ops[j]? = some oj) (hap : oi.apart ops oj = true)
    (hsi : ∀ cs b, oi.op ≠ .select cs b) (hsj : ∀ cs b, oj.op ≠ .select cs b) {K : Act → World → Prop} {a : Act} {w : World}
    (hy : YieldsD P ops N oi v a) (h : stepE P ops D e (listed.setIfInBounds i true) j K (a.put oi.dst v) w) :
    stepE P ops D e listed j (fun a' w' => YieldsD P ops N oi v a' ∧ K (a'.put oi.dst v) w') a w := by
  obtain ⟨h1, h2, h3⟩ := Oper.apart_spec hap
  have keep : ∀ (a : Act), YieldsD P ops N oi v a → ∀ u, YieldsD P ops N oi v (a.put oj.dst u) := fun a hy u =>
    hy.of_same (execOp_put oi hsi a oj.dst u h3) (wanted_put oi a oj.dst u h3)
  unfold stepE at *
  simp only [hj] at *
  rw [wanted_put oj a oi.dst v h1] at h
  split
  · rename_i hw
    simp only [hw, if_true] at h
    split
    · rename_i hq
      simp only [hq, if_true] at h
      obtain ⟨hje, u, hu, hn⟩ := h
      rw [execOp_put oj hsj a oi.dst v h1] at hu
      exact ⟨hje, u, hu, keep a hy u, by rw [← Act.put_comm a v u h2]; exact hn⟩
    · rename_i hq
      simp only [hq] at h
      obtain ⟨Φ, hΦ, hn⟩ := h
      refine ⟨Φ, ?_, fun u w' hu => ⟨Till.unset hne (by rw [Array.setIfInBounds_comm _ _ hji.symm]; exact (hn u w' hu).1), keep a hy u, by rw [← Act.put_comm a v u h2]; exact (hn u w' hu).2⟩⟩
      unfold EffAt at *
      rwa [execOp_put oj hsj a oi.dst v h1] at hΦ
  · rename_i hw
    simp only [hw] at h
    exact ⟨h.1, keep a hy _, by rw [← Act.put_comm a v undef h2]; exact h.2⟩

/-- A quiet operation that may come up now may be taken first. -/
theorem wpE_quiet {i : Nat} {oi : Oper} {v : Value} (hi : ops[i]? = some oi) (hne : i ≠ e) (hsel : ∀ (j : Nat) (o : Oper) cs b, ops[j]? = some o → o.op ≠ .select cs b) :
    ∀ (fuel : Nat) (listed : Array Bool) (a : Act) (w : World),
      (∀ j oj, ops[j]? = some oj → j ≠ i → listed.getD j true = false → (∀ f ∈ oj.after, Region.binds .any f = true → f.on ≠ i) → oi.apart ops oj = true) →
      i ∈ Region.ready .any ops listed → YieldsD P ops (Near ops D e i) oi v a →
      wpE P ops D e Q fuel (listed.setIfInBounds i true) (a.put oi.dst v) w → wpE P ops D e Q (fuel + 1) listed a w := by
  intro fuel
  induction fuel with
  | zero =>
    intro listed a w _ hr hy H
    refine ⟨fun h => (by rw [h] at hr; cases hr), fun j hj => ?_⟩
    by_cases hji : j = i
    · subst hji; exact hy.step hi hne H
    · have := ready_mono hj hji
      rw [H.1] at this
      cases this
  | succ fuel ih =>
    intro listed a w hfree hr hy H
    refine ⟨fun h => (by rw [h] at hr; cases hr), fun j hj => ?_⟩
    by_cases hji : j = i
    · subst hji; exact hy.step hi hne H
    · have h1 := H.2 j (ready_mono hj hji)
      obtain ⟨hjun, oj, hoj, hall⟩ := mem_ready.1 hj
      have hnot : ∀ f ∈ oj.after, Region.binds .any f = true → f.on ≠ i := fun f he hb heq => by
        have h1 := hall f he hb
        have h0 := (mem_ready.1 hr).1
        rw [heq] at h1
        rcases Nat.lt_or_ge i listed.size with h' | h'
        · simp [h'] at h0 h1; rw [h0] at h1; cases h1
        · simp [Array.getElem?_eq_none h'] at h1
      have h2 := stepE_put hne (Ne.symm hji) hoj (hfree j oj hoj hji hjun hnot) (fun cs b => hsel i oi cs b hi) (fun cs b => hsel j oj cs b hoj) hy h1
      have hfree' : ∀ k ok, ops[k]? = some ok → k ≠ i → (listed.setIfInBounds j true).getD k true = false →
          (∀ f ∈ ok.after, Region.binds .any f = true → f.on ≠ i) → oi.apart ops ok = true := fun k ok hk hki hun hno => by
        refine hfree k ok hk hki ?_ hno
        by_cases hjk : j = k
        · subst hjk; exact hjun
        · rw [getD_set_ne true hjk] at hun; exact hun
      refine stepE_mono (fun a' w' h3 => ih (listed.setIfInBounds j true) a' w' hfree' (ready_mono hr (Ne.symm hji)) h3.1 ?_) h2
      rw [Array.setIfInBounds_comm _ _ hji]
      exact h3.2

/-- An operation with an effect that may come up now may be taken first, if all others that may come up before it are quiet. -/
theorem wpE_eff {i : Nat} {oi : Oper} {Φ : Value → World → Prop} (hi : ops[i]? = some oi) (hq : quietK oi.op = false) (hsel : ∀ (j : Nat) (o : Oper) cs b, ops[j]? = some o → o.op ≠ .select cs b) :
    ∀ (fuel : Nat) (listed : Array Bool) (a : Act) (w : World), Closed ops listed →
      (∀ j oj, ops[j]? = some oj → j ≠ i → listed.getD j true = false → (∀ f ∈ oj.after, Region.binds .any f = true → f.on ≠ i) → oi.apart ops oj = true) →
      (∀ listed', Closed ops listed' → i ∈ Region.ready .any ops listed' → (∀ j, listed.getD j false = true → listed'.getD j false = true) → ∀ j oj, ops[j]? = some oj → j ≠ i → j ∈ Region.ready .any ops listed' → quietK oj.op = true) →
      i ∈ Region.ready .any ops listed → Region.wanted oi (yielded ops a.tmps) = true → EffAt P oi a w Φ →
      (∀ v w', Φ v w' → Till D e (listed.setIfInBounds i true) w' ∧ wpE P ops D e Q fuel (listed.setIfInBounds i true) (a.put oi.dst v) w') → wpE P ops D e Q (fuel + 1) listed a w := by
  intro fuel
  induction fuel with
  | zero =>
    intro listed a w hc hfree hqs hr hwt hE H
    refine ⟨fun h => (by rw [h] at hr; cases hr), fun j hj => ?_⟩
    by_cases hji : j = i
    · subst hji
      unfold stepE
      simp only [hi, hwt, hq, if_true, Bool.false_eq_true, if_false]
      exact ⟨Φ, hE, H⟩
    · obtain ⟨v, w', hv⟩ := hE.some
      have h1 := (H v w' hv).2
      have := ready_mono hj hji
      rw [h1.1] at this
      cases this
  | succ fuel ih =>
    intro listed a w hc hfree hqs hr hwt hE H
    refine ⟨fun h => (by rw [h] at hr; cases hr), fun j hj => ?_⟩
    by_cases hji : j = i
    · subst hji
      unfold stepE
      simp only [hi, hwt, hq, if_true, Bool.false_eq_true, if_false]
      exact ⟨Φ, hE, H⟩
    · obtain ⟨hjun, oj, hoj, hall⟩ := mem_ready.1 hj
      have hnot : ∀ f ∈ oj.after, Region.binds .any f = true → f.on ≠ i := fun f he hb heq => by
        have h1 := hall f he hb
        have h0 := (mem_ready.1 hr).1
        rw [heq] at h1
        rcases Nat.lt_or_ge i listed.size with h' | h'
        · simp [h'] at h0 h1; rw [h0] at h1; cases h1
        · simp [Array.getElem?_eq_none h'] at h1
      have hap := hfree j oj hoj hji hjun hnot
      obtain ⟨p1, p2, p3⟩ := Oper.apart_spec hap
      have hqj : quietK oj.op = true := hqs listed hc hr (fun _ h => h) j oj hoj hji hj
      have hsi : ∀ cs b, oi.op ≠ .select cs b := fun cs b => hsel i oi cs b hi
      have hsj : ∀ cs b, oj.op ≠ .select cs b := fun cs b => hsel j oj cs b hoj
      -- what 'oj' does behind 'oi', for each result of 'oi'
      have hK : ∀ v w', Φ v w' → Till D e (listed.setIfInBounds i true) w' ∧ ((Region.wanted oj (yielded ops a.tmps) = true ∧ j ≠ e ∧ ∃ u, (∀ w'', Near ops D e j w'' → (execOp a.eval oj).run P w'' = .ok (.value u) w'') ∧
            wpE P ops D e Q fuel ((listed.setIfInBounds i true).setIfInBounds j true) ((a.put oi.dst v).put oj.dst u) w') ∨
          (Region.wanted oj (yielded ops a.tmps) = false ∧ j ≠ e ∧ wpE P ops D e Q fuel ((listed.setIfInBounds i true).setIfInBounds j true) ((a.put oi.dst v).put oj.dst undef) w')) := by
        intro v w' hv
        obtain ⟨hD, H1⟩ := H v w' hv
        have h1 := H1.2 j (ready_mono hj hji)
        unfold stepE at h1
        simp only [hoj, wanted_put oj a oi.dst v p1, hqj, if_true] at h1
        refine ⟨hD, ?_⟩
        split at h1
        · rename_i hw
          obtain ⟨hje, u, hu, hn⟩ := h1
          rw [execOp_put oj hsj a oi.dst v p1] at hu
          exact .inl ⟨hw, hje, u, hu, hn⟩
        · rename_i hw
          exact .inr ⟨by simpa using hw, h1⟩
      have hfree' : ∀ k ok, ops[k]? = some ok → k ≠ i → (listed.setIfInBounds j true).getD k true = false →
          (∀ f ∈ ok.after, Region.binds .any f = true → f.on ≠ i) → oi.apart ops ok = true := fun k ok hk hki hun hno => by
        refine hfree k ok hk hki ?_ hno
        by_cases hjk : j = k
        · subst hjk; exact hjun
        · rw [getD_set_ne true hjk] at hun; exact hun
      have go : ∀ u, (∀ v w', Φ v w' → Till D e (listed.setIfInBounds i true) w' ∧ wpE P ops D e Q fuel ((listed.setIfInBounds i true).setIfInBounds j true) ((a.put oi.dst v).put oj.dst u) w') →
          wpE P ops D e Q (fuel + 1) (listed.setIfInBounds j true) (a.put oj.dst u) w := by
        intro u hu
        refine ih (listed.setIfInBounds j true) (a.put oj.dst u) w (hc.set hj) hfree'
          (fun listed' hc' hr' hsub => hqs listed' hc' hr' (fun k hk => hsub k (getD_set_true hk))) (ready_mono hr (Ne.symm hji))
          (by rw [wanted_put oi a oj.dst u p3]; exact hwt) (by unfold EffAt at *; rwa [execOp_put oi hsi a oj.dst u p3]) ?_
        intro v w' hv
        refine ⟨by rw [Array.setIfInBounds_comm _ _ hji]; exact (hu v w' hv).1.set, ?_⟩
        have h2 := (hu v w' hv).2
        rw [Array.setIfInBounds_comm _ _ (Ne.symm hji), Act.put_comm a v u p2] at h2
        exact h2
      obtain ⟨v0, w0, hv0⟩ := hE.some
      unfold stepE
      simp only [hoj, hqj, if_true]
      rcases (hK v0 w0 hv0).2 with ⟨hw, hje, u0, hu0, _⟩ | ⟨hw, hje, _⟩
      · rw [if_pos hw]
        refine ⟨hje, u0, hu0, go u0 fun v w' hv => ?_⟩
        obtain ⟨hD, hc2⟩ := hK v w' hv
        rcases hc2 with ⟨_, _, u, hu, hn⟩ | ⟨hw2, _⟩
        · have hnr : Near ops D e j w' := hD.near (hc.set hr) (by rw [getD_set_ne false (Ne.symm hji)]; exact ready_unlisted hj)
          have e1 := hu w' hnr
          have e2 := hu0 w' hnr
          rw [e1] at e2
          have : u = u0 := by simpa using e2
          subst this
          exact ⟨hD, hn⟩
        · rw [hw] at hw2; cases hw2
      · rw [if_neg (by simp [hw])]
        refine ⟨hje, go undef fun v w' hv => ?_⟩
        obtain ⟨hD, hc2⟩ := hK v w' hv
        rcases hc2 with ⟨hw2, _⟩ | ⟨_, _, hn⟩
        · rw [hw] at hw2; cases hw2
        · exact ⟨hD, hn⟩

/-- Several operations with effects that may come up in any order: each may be taken first, if all others that may come up before them are quiet. -/
theorem wpE_effs {C : List Nat} (hC : C ≠ []) (hsel : ∀ (j : Nat) (o : Oper) cs b, ops[j]? = some o → o.op ≠ .select cs b) :
    ∀ (fuel : Nat) (listed : Array Bool) (a : Act) (w : World), Closed ops listed →
      (∀ i ∈ C, ∃ oi, ops[i]? = some oi ∧ quietK oi.op = false ∧ (∀ j oj, ops[j]? = some oj → j ≠ i → listed.getD j true = false → (∀ f ∈ oj.after, Region.binds .any f = true → f.on ≠ i) → oi.apart ops oj = true) ∧
        i ∈ Region.ready .any ops listed ∧ Region.wanted oi (yielded ops a.tmps) = true ∧ ∃ Φ : Value → World → Prop, EffAt P oi a w Φ ∧
        ∀ v w', Φ v w' → Till D e (listed.setIfInBounds i true) w' ∧ wpE P ops D e Q fuel (listed.setIfInBounds i true) (a.put oi.dst v) w') →
      (∀ listed', Closed ops listed' → (∀ i ∈ C, i ∈ Region.ready .any ops listed') → (∀ j, listed.getD j false = true → listed'.getD j false = true) → ∀ j oj, ops[j]? = some oj → j ∉ C → j ∈ Region.ready .any ops listed' → quietK oj.op = true) →
      wpE P ops D e Q (fuel + 1) listed a w := by
  obtain ⟨i0, hi0⟩ : ∃ i, i ∈ C := List.exists_mem_of_ne_nil C hC
  have take : ∀ (fuel : Nat) (listed : Array Bool) (a : Act) (w : World) (j : Nat), j ∈ C →
      (∀ i ∈ C, ∃ oi, ops[i]? = some oi ∧ quietK oi.op = false ∧ (∀ j oj, ops[j]? = some oj → j ≠ i → listed.getD j true = false → (∀ f ∈ oj.after, Region.binds .any f = true → f.on ≠ i) → oi.apart ops oj = true) ∧
        i ∈ Region.ready .any ops listed ∧ Region.wanted oi (yielded ops a.tmps) = true ∧ ∃ Φ : Value → World → Prop, EffAt P oi a w Φ ∧
        ∀ v w', Φ v w' → Till D e (listed.setIfInBounds i true) w' ∧ wpE P ops D e Q fuel (listed.setIfInBounds i true) (a.put oi.dst v) w') →
      stepE P ops D e listed j (wpE P ops D e Q fuel (listed.setIfInBounds j true)) a w := by
    intro fuel listed a w j hj H
    obtain ⟨oi, hi, hq, _, _, hwt, Φ, hE, HK⟩ := H j hj
    unfold stepE
    simp only [hi, hwt, hq, if_true, Bool.false_eq_true, if_false]
    exact ⟨Φ, hE, HK⟩
  intro fuel
  induction fuel with
  | zero =>
    intro listed a w hc H hqs
    obtain ⟨oi, hi, hq, _, hr, hwt, Φ, hE, HK⟩ := H i0 hi0
    refine ⟨fun h => (by rw [h] at hr; cases hr), fun j hj => ?_⟩
    by_cases hjC : j ∈ C
    · exact take 0 listed a w j hjC H
    · obtain ⟨v, w', hv⟩ := hE.some
      have h1 := (HK v w' hv).2
      have hji : j ≠ i0 := fun e => hjC (e ▸ hi0)
      have := ready_mono hj hji
      rw [h1.1] at this
      cases this
  | succ fuel ih =>
    intro listed a w hc H hqs
    obtain ⟨o0, h0, hq0, _, hr0, hwt0, Φ0, hE0, HK0⟩ := H i0 hi0
    refine ⟨fun h => (by rw [h] at hr0; cases hr0), fun j hj => ?_⟩
    by_cases hjC : j ∈ C
    · exact take (fuel + 1) listed a w j hjC H
    · obtain ⟨hjun, oj, hoj, hall⟩ := mem_ready.1 hj
      have hqj : quietK oj.op = true := hqs listed hc (fun i hi => by obtain ⟨_, _, _, _, hr, _⟩ := H i hi; exact hr) (fun _ h => h) j oj hoj hjC hj
      have hsj : ∀ cs b, oj.op ≠ .select cs b := fun cs b => hsel j oj cs b hoj
      -- what the continuation of each candidate says of 'oj'
      have key : ∀ i ∈ C, ∀ oi, ops[i]? = some oi → quietK oi.op = false → (∀ j oj, ops[j]? = some oj → j ≠ i → listed.getD j true = false → (∀ f ∈ oj.after, Region.binds .any f = true → f.on ≠ i) → oi.apart ops oj = true) → i ∈ Region.ready .any ops listed →
          ∀ (Φ : Value → World → Prop), (∀ v w', Φ v w' → Till D e (listed.setIfInBounds i true) w' ∧ wpE P ops D e Q (fuel + 1) (listed.setIfInBounds i true) (a.put oi.dst v) w') →
          oi.apart ops oj = true ∧ j ≠ i ∧ ∀ v w', Φ v w' → Till D e (listed.setIfInBounds i true) w' ∧
            ((Region.wanted oj (yielded ops a.tmps) = true ∧ j ≠ e ∧ ∃ u, (∀ w'', Near ops D e j w'' → (execOp a.eval oj).run P w'' = .ok (.value u) w'') ∧ wpE P ops D e Q fuel ((listed.setIfInBounds i true).setIfInBounds j true) ((a.put oi.dst v).put oj.dst u) w') ∨
             (Region.wanted oj (yielded ops a.tmps) = false ∧ j ≠ e ∧ wpE P ops D e Q fuel ((listed.setIfInBounds i true).setIfInBounds j true) ((a.put oi.dst v).put oj.dst undef) w')) := by
        intro i hiC oi hi hq hfree hr Φ HK
        have hji : j ≠ i := fun e => hjC (e ▸ hiC)
        have hnot : ∀ f ∈ oj.after, Region.binds .any f = true → f.on ≠ i := fun f he hb heq => by
          have h1 := hall f he hb
          have h0 := (mem_ready.1 hr).1
          rw [heq] at h1
          rcases Nat.lt_or_ge i listed.size with h' | h'
          · simp [h'] at h0 h1; rw [h0] at h1; cases h1
          · simp [Array.getElem?_eq_none h'] at h1
        have hap := hfree j oj hoj hji hjun hnot
        obtain ⟨p1, p2, p3⟩ := Oper.apart_spec hap
        refine ⟨hap, hji, fun v w' hv => ?_⟩
        obtain ⟨hD, H1⟩ := HK v w' hv
        have h1 := H1.2 j (ready_mono hj hji)
        unfold stepE at h1
        simp only [hoj, wanted_put oj a oi.dst v p1, hqj, if_true] at h1
        refine ⟨hD, ?_⟩
        split at h1
        · rename_i hw
          obtain ⟨hje, u, hu, hn⟩ := h1
          rw [execOp_put oj hsj a oi.dst v p1] at hu
          exact .inl ⟨hw, hje, u, hu, hn⟩
        · rename_i hw
          exact .inr ⟨by simpa using hw, h1⟩
      have go : ∀ u, (∀ i ∈ C, ∀ oi, ops[i]? = some oi → ∀ (Φ : Value → World → Prop), quietK oi.op = false → (∀ j oj, ops[j]? = some oj → j ≠ i → listed.getD j true = false → (∀ f ∈ oj.after, Region.binds .any f = true → f.on ≠ i) → oi.apart ops oj = true) → i ∈ Region.ready .any ops listed →
          (∀ v w', Φ v w' → Till D e (listed.setIfInBounds i true) w' ∧ wpE P ops D e Q (fuel + 1) (listed.setIfInBounds i true) (a.put oi.dst v) w') →
          ∀ v w', Φ v w' → Till D e (listed.setIfInBounds i true) w' ∧ wpE P ops D e Q fuel ((listed.setIfInBounds i true).setIfInBounds j true) ((a.put oi.dst v).put oj.dst u) w') →
          wpE P ops D e Q (fuel + 1) (listed.setIfInBounds j true) (a.put oj.dst u) w := by
        intro u hu
        refine ih (listed.setIfInBounds j true) (a.put oj.dst u) w (hc.set hj) ?_ (fun listed' hc' hr' hsub => hqs listed' hc' hr' (fun k hk => hsub k (getD_set_true hk)))
        intro i hiC
        obtain ⟨oi, hi, hq, hfree, hr, hwt, Φ, hE, HK⟩ := H i hiC
        obtain ⟨hap, hji, _⟩ := key i hiC oi hi hq hfree hr Φ HK
        obtain ⟨p1, p2, p3⟩ := Oper.apart_spec hap
        have hsi : ∀ cs b, oi.op ≠ .select cs b := fun cs b => hsel i oi cs b hi
        refine ⟨oi, hi, hq, ?_, ready_mono hr (Ne.symm hji), by rw [wanted_put oi a oj.dst u p3]; exact hwt, Φ, by unfold EffAt at *; rwa [execOp_put oi hsi a oj.dst u p3], ?_⟩
        · intro k ok hk hki hun hno
          refine hfree k ok hk hki ?_ hno
          by_cases hjk : j = k
          · subst hjk; exact hjun
          · rw [getD_set_ne true hjk] at hun; exact hun
        · intro v w' hv
          have h2 := hu i hiC oi hi Φ hq hfree hr HK v w' hv
          refine ⟨by rw [Array.setIfInBounds_comm _ _ hji]; exact h2.1.set, ?_⟩
          have h3 := h2.2
          rw [Array.setIfInBounds_comm _ _ (Ne.symm hji), Act.put_comm a v u p2] at h3
          exact h3
      obtain ⟨v0, w0, hv0⟩ := hE0.some
      obtain ⟨_, hji0, hK0⟩ := key i0 hi0 o0 h0 hq0 (by obtain ⟨oi, hi, _, hfree, _⟩ := H i0 hi0; rw [h0] at hi; cases hi; exact hfree) hr0 Φ0 HK0
      unfold stepE
      simp only [hoj, hqj, if_true]
      rcases (hK0 v0 w0 hv0).2 with ⟨hw, hje, u0, hu0, _⟩ | ⟨hw, hje, _⟩
      · rw [if_pos hw]
        refine ⟨hje, u0, hu0, go u0 fun i hiC oi hi Φ hq hfree hr HK v w' hv => ?_⟩
        obtain ⟨_, hji, hKi⟩ := key i hiC oi hi hq hfree hr Φ HK
        obtain ⟨hD, hc2⟩ := hKi v w' hv
        rcases hc2 with ⟨_, _, u, hu, hn⟩ | ⟨hw2, _⟩
        · have hnr : Near ops D e j w' := hD.near (hc.set hr) (by rw [getD_set_ne false (Ne.symm hji)]; exact ready_unlisted hj)
          have e1 := hu w' hnr
          have e2 := hu0 w' hnr
          rw [e1] at e2
          have : u = u0 := by simpa using e2
          subst this
          exact ⟨hD, hn⟩
        · rw [hw] at hw2; cases hw2
      · rw [if_neg (by simp [hw])]
        refine ⟨hje, go undef fun i hiC oi hi Φ hq hfree hr HK v w' hv => ?_⟩
        obtain ⟨_, hji, hKi⟩ := key i hiC oi hi hq hfree hr Φ HK
        obtain ⟨hD, hc2⟩ := hKi v w' hv
        rcases hc2 with ⟨hw2, _⟩ | ⟨_, _, hn⟩
        · rw [hw] at hw2; cases hw2
        · exact ⟨hD, hn⟩

/-! ### The order of the text -/

/-- The operations that wait for number 'i', as a number's bits. -/
def waitM (i : Nat) : List Oper → Nat → Nat → Nat
  | [], _, m => m
  | o :: r, k, m => waitM i r (k + 1) (match o.after.toList.any (fun e => Region.binds .any e && (Nat.beq e.on i || m.testBit e.on)) with
    | true => m ||| 2 ^ k
    | false => m)

theorem waitM_spec {i : Nat} : ∀ (l : List Oper) (k m : Nat), (∀ j, l[j]? = ops[k + j]?) → (∀ j, m.testBit j = true → Blk ops i j) → ∀ j, (waitM i l k m).testBit j = true → Blk ops i j
  | [], _, _, _, hm, j, hj => hm j hj
  | o :: r, k, m, hl, hm, j, hj => by
    simp only [waitM] at hj
    refine waitM_spec r (k + 1) _ (fun j => by have := hl (j + 1); simpa [Nat.add_assoc, Nat.add_comm 1 j] using this) ?_ j hj
    intro q hq
    split at hq
    · rename_i hany
      rw [Nat.testBit_or, Bool.or_eq_true] at hq
      rcases hq with hq | hq
      · exact hm q hq
      · have hqk : q = k := by
          rw [Nat.testBit_two_pow] at hq
          simpa using (of_decide_eq_true hq).symm
        subst hqk
        have h0 : ops[q]? = some o := by simpa using (hl 0).symm
        obtain ⟨e, he, hb⟩ := List.any_eq_true.1 hany
        simp only [Bool.and_eq_true, Bool.or_eq_true] at hb
        obtain ⟨hbind, hor⟩ := hb
        have he' : e ∈ o.after := by simpa using he
        intro listed hc hun
        have hon : listed.getD e.on false = false := by
          rcases hor with h1 | h1
          · have : e.on = i := Nat.eq_of_beq_eq_true h1
            rw [this]; exact hun
          · exact (hm e.on h1 listed hc hun).1
        constructor
        · cases hx : listed.getD q false with
          | false => rfl
          | true => have := hc.2 q o h0 hx e he' hbind; rw [hon] at this; cases this
        · intro hr
          obtain ⟨_, oq, hoq, hall⟩ := mem_ready.1 hr
          have : oq = o := Option.some.inj (hoq.symm.trans h0)
          subst this
          have := hall e he' hbind
          rw [hon] at this; cases this
    · exact hm q hq

/-- From each operation with an effect on, the later ones with an effect wait for it. -/
def effB (ops : List Oper) : List Oper → Nat → Bool
  | [], _ => true
  | o :: r, k => (quietK o.op || (let m := waitM k r (k + 1) 0; (r.zipIdx (k + 1)).all fun (q, j) => quietK q.op || m.testBit j)) && effB ops r (k + 1)

/-- What a region that draws promises on the way: the class 'D' of worlds, till the operation that stands 'q' from the end has come up (0: to the end). -/
structure Cls where
  D : World → Prop
  q : Nat
  E : Option (World → Prop)

def Cls.al2 (c : Cls) (w : World) : Prop := match c.E with
  | none => True
  | some E => E w
def Cls.aft (c : Cls) (rest : List Oper) (w : World) : Prop := match c.E with
  | none => (match Nat.blt rest.length c.q with
    | true => True
    | false => c.D w)
  | some E => (match Nat.blt rest.length c.q with
    | true => E w
    | false => c.D w ∧ E w)
theorem Cls.aft_spec {c : Cls} {rest : List Oper} {w : World} (h : c.aft rest w) : (rest.length < c.q ∨ c.D w) ∧ c.al2 w := by
  obtain ⟨D, q, E⟩ := c
  unfold Cls.aft at h
  unfold Cls.al2
  cases E with
  | none =>
    simp only at h ⊢
    refine ⟨?_, trivial⟩
    split at h
    · rename_i hb; left; simpa using hb
    · exact .inr h
  | some E =>
    simp only at h ⊢
    split at h
    · rename_i hb; exact ⟨.inl (by simpa using hb), h⟩
    · exact ⟨.inr h.1, h.2⟩

def waitsB (ops : Array Oper) (rest : List Oper) (q : Nat) : Bool := match q with
  | 0 => true
  | _ + 1 => (waitM (ops.size - rest.length - 1) rest (ops.size - rest.length) 0).testBit (ops.size - q)

def lastB (ops : List Oper) (q : Nat) : Bool := Nat.ble q ops.length && match ops[ops.length - q]? with
  | none => true
  | some o => !quietK o.op

def wpLex (P : Program) (ops : Array Oper) (c : Cls) (Q : Act → World → Prop) : List Oper → Act → World → Prop
  | [], a, w => Q a w
  | o :: rest, a, w => if Region.wanted o (yielded ops a.tmps) then
      (if quietK o.op then ∃ v, (∀ w', ((waitsB ops rest c.q = true → c.D w') ∧ c.al2 w') → (execOp a.eval o).run P w' = .ok (.value v) w') ∧ wpLex P ops c Q rest (a.put o.dst v) w
       else ∃ Φ : Value → World → Prop, EffAt P o a w Φ ∧ ∀ v w', Φ v w' → c.aft rest w' ∧ wpLex P ops c Q rest (a.put o.dst v) w')
    else Nat.beq (rest.length + 1) c.q = false ∧ wpLex P ops c Q rest (a.put o.dst undef) w

theorem wpE_lex {l0 : List Oper} {c : Cls} (hsel : ∀ (j : Nat) (o : Oper) cs b, l0.toArray[j]? = some o → o.op ≠ .select cs b) (hlast : lastB l0 c.q = true) : ∀ (l : List Oper) (k : Nat) (listed : Array Bool) (a : Act) (w : World), k + l.length = l0.length → (∀ j, l[j]? = l0[k + j]?) →
    (∀ j, j < k → listed.getD j true = true) → listed.size = l0.length → Closed l0.toArray listed →
    Region.lexFrom .any l0.toArray l.length k listed = true → effB l0 l k = true → wpLex P l0.toArray c Q l a w → wpE P l0.toArray ⟨c.D, c.al2⟩ (l0.length - c.q) Q l.length listed a w
  | [], _, _, _, _, _, _, _, _, _, hB, _, h => ⟨by simpa [Region.lexFrom] using hB, h⟩
  | o :: l, k, listed, a, w, hkl, hl, hlt, hsz, hc, hB, hE, h => by
    have h0 : l0[k]? = some o := by simpa using (hl 0).symm
    have h0' : l0.toArray[k]? = some o := by simpa using h0
    have hk : k < l0.length := (List.getElem?_eq_some_iff.1 h0).1
    have hkl' : k + l.length + 1 = l0.length := by simpa [Nat.add_assoc] using hkl
    simp only [List.length_cons, Region.lexFrom, Bool.and_eq_true] at hB
    obtain ⟨⟨hr, hf⟩, hB'⟩ := hB
    have hr' : k ∈ Region.ready .any l0.toArray listed := by simpa using hr
    simp only [effB, Bool.and_eq_true] at hE
    have hl' : ∀ j, l[j]? = l0[(k + 1) + j]? := fun j => by have := hl (j + 1); simpa [Nat.add_assoc, Nat.add_comm 1 j] using this
    have hlt' : ∀ j, j < k + 1 → (listed.setIfInBounds k true).getD j true = true := fun j hj => by
      by_cases hkj : k = j
      · subst hkj; simp [hsz, hk]
      · rw [getD_set_ne true hkj]; exact hlt j (by omega)
    have ih := fun a w => wpE_lex hsel hlast l (k + 1) (listed.setIfInBounds k true) a w (by omega) hl' hlt' (by simpa using hsz) (hc.set hr') hB' hE.2
    have hblk : ∀ j, (waitM k l (k + 1) 0).testBit j = true → Blk l0.toArray k j := waitM_spec (ops := l0.toArray) l (k + 1) 0 (fun j => by simpa using hl' j) (fun j hj => by simp at hj)
    simp only [wpLex] at h
    by_cases hw : Region.wanted o (yielded l0.toArray a.tmps) = true
    · rw [if_pos hw] at h
      by_cases hq : quietK o.op = true
      · rw [if_pos hq] at h
        obtain ⟨v, hv, hn⟩ := h
        have hne : k ≠ l0.length - c.q := by
          intro e
          unfold lastB at hlast
          rw [← e, h0] at hlast
          simp [hq] at hlast
        refine wpE_quiet h0' hne hsel l.length listed a w (Region.free_spec h0' hf) hr' (.inl ⟨hw, hq, fun w' hn => hv w' ⟨fun hb => hn.1 ?_, hn.2⟩⟩) (ih _ _ hn)
        unfold waitsB at hb
        split at hb
        · rename_i hq0
          intro listed' hc' hun
          have hno : listed'.getD (l0.length - 0) false = false := by
            have := hc'.1
            simp only [List.size_toArray] at this
            simp [this]
          rw [hq0]
          refine ⟨hno, fun hm => ?_⟩
          obtain ⟨_, ox, hox, _⟩ := mem_ready.1 hm
          simp at hox
        · refine hblk _ ?_
          simp only [List.size_toArray] at hb
          rwa [show l0.length - l.length - 1 = k by omega, show l0.length - l.length = k + 1 by omega] at hb
      · rw [if_neg hq] at h
        obtain ⟨Φ, hΦ, hn⟩ := h
        refine wpE_eff h0' (by simpa using hq) hsel l.length listed a w hc (Region.free_spec h0' hf) ?_ hr' hw hΦ (fun v w' hv => ⟨?_, ih _ _ (hn v w' hv).2⟩)
        · intro listed' hc' hri hsub j oj hj hjk hjr
          have h1 := hE.1
          simp only [hq, Bool.false_or] at h1
          have hjl : j < l0.length := by have := (Array.getElem?_eq_some_iff.1 hj).1; simpa using this
          have hjgt : k < j := by
            rcases Nat.lt_or_ge k j with h' | h'
            · exact h'
            · have hjk' : j < k := by omega
              have h2 := hlt j hjk'
              have h3 : listed.getD j false = true := by
                have : j < listed.size := by omega
                simp [this] at h2 ⊢; exact h2
              have h4 := hsub j h3
              have h5 := ready_unlisted hjr
              rw [h4] at h5; cases h5
          have hmem : (oj, j) ∈ l.zipIdx (k + 1) := by
            rw [List.mem_zipIdx_iff_le_and_getElem?_sub]
            refine ⟨by omega, ?_⟩
            have := hl' (j - (k + 1))
            rw [show k + 1 + (j - (k + 1)) = j by omega] at this
            rw [this]; simpa using hj
          have h2 := List.all_eq_true.1 h1 (oj, j) hmem
          simp only [Bool.or_eq_true] at h2
          rcases h2 with h2 | h2
          · exact h2
          · exact absurd hjr (hblk j h2 listed' hc' (ready_unlisted hri)).2
        · obtain ⟨ha, ha2⟩ := Cls.aft_spec (hn v w' hv).1
          refine ⟨?_, ha2⟩
          rcases ha with hb' | ha
          · left
            have := hlt' (l0.length - c.q) (by omega)
            have hs2 : l0.length - c.q < (listed.setIfInBounds k true).size := by simp; omega
            rw [Array.getD, dif_pos hs2] at this ⊢
            exact this
          · exact .inr ha
    · rw [if_neg hw] at h
      have hne : k ≠ l0.length - c.q := by
        have := h.1
        have h3 : ¬ l.length + 1 = c.q := fun e => by simp [e] at this
        intro e
        have h5 : c.q ≤ l0.length := by
          unfold lastB at hlast
          rw [Bool.and_eq_true] at hlast
          simpa using hlast.1
        omega
      have hy : YieldsD P l0.toArray (Near l0.toArray ⟨c.D, c.al2⟩ (l0.length - c.q) k) o undef a := .inr ⟨by simpa using hw, rfl⟩
      exact wpE_quiet h0' hne hsel l.length listed a w (Region.free_spec h0' hf) hr' hy (ih _ _ h.2)

/-- **A region that draws its order**: one walk in the order of the text serves, if the calls and writes wait for one another and what only reads reads the same in every world of the class in which it may come up. -/
theorem wp_region_lex {id : Nat} {Q' : Exit → Act → World → Prop} {a : Act} {w : World} {l : List Oper} {c : Cls} (hm : P.follows .mixedOrders = true) (hB : Region.lexB .any l.toArray = true) (hE : effB l l 0 = true) (hlast : lastB l c.q = true)
    (hD : c.D { w with drawn := w.drawn + 1 }) (hE2 : c.al2 { w with drawn := w.drawn + 1 }) (h : wpLex P l.toArray c (fun a' w' => Q' .normal a' w') l a { w with drawn := w.drawn + 1 }) : (Code.region id l.toArray true).wp P Q' a w := by
  simp only [Region.lexB, Bool.and_eq_true] at hB
  have hsz : l.length = l.toArray.size := by simp
  have hc : Closed l.toArray (Array.replicate l.toArray.size false) := ⟨by simp, fun j oj hj hl => by rw [getD_replicate_false] at hl; cases hl⟩
  refine wp_region_any hm (wpAny_of_wpE (D := ⟨c.D, c.al2⟩) (e := l.length - c.q) (Q := fun a' w' => Q' .normal a' w') (fun _ _ h => h) _ _ _ _ hc ⟨.inr hD, hE2⟩ ?_)
  have := wpE_lex (l0 := l) (Region.noSelect_spec hB.1) hlast l 0 (Array.replicate l.toArray.size false) a { w with drawn := w.drawn + 1 }
    (by simp) (fun j => by simp) (fun j hj => by omega) (by simp) hc (by simpa using hB.2) hE h
  rwa [hsz] at this

/-! ### Schedules: operations with effects in any order -/

variable {D : World → Prop}

/-- A schedule: which operation comes up; 'alt': it, or else what the second schedule begins with. -/
inductive Sch where
  | fin
  | op (i : Nat) (t : Sch)
  | alt (i : Nat) (t u : Sch)

def Sch.depth : Sch → Nat
  | .fin => 0
  | .op _ t => t.depth + 1
  | .alt _ t _ => t.depth + 1

def Sch.brs : Sch → List (Nat × Sch)
  | .fin => []
  | .op i t => [(i, t)]
  | .alt i t u => (i, t) :: u.brs

def coverB (ops : Array Oper) (C : List Nat) (listed : Array Bool) : Bool :=
  (List.range ops.size).all fun j => listed.getD j false || C.contains j || (match ops[j]? with | some o => quietK o.op | none => true) || C.any fun i => (waitM i ops.toList 0 0).testBit j

def effI (ops : Array Oper) (i : Nat) : Bool := match ops[i]? with
  | some o => !quietK o.op && o.guard.isNone
  | none => false

def nodeB (ops : Array Oper) (C : List Nat) (listed : Array Bool) : Bool :=
  (match C with
   | [i] => (match ops[i]? with | some o => quietK o.op | none => false)
   | _ => false) || (C.all (effI ops) && coverB ops C listed)

def Sch.chk (ops : Array Oper) : Sch → Bool → Array Bool → Bool
  | .fin, _, l => (Region.ready .any ops l).isEmpty
  | .op i t, top, l => (!top || nodeB ops [i] l) && (Region.ready .any ops l).contains i && Region.free .any ops l i && t.chk ops true (l.setIfInBounds i true)
  | .alt i t u, top, l => (!top || nodeB ops (i :: u.brs.map (·.1)) l) && (Region.ready .any ops l).contains i && Region.free .any ops l i && t.chk ops true (l.setIfInBounds i true) && u.chk ops false l && Nat.beq u.depth (t.depth + 1)

def wpS (P : Program) (ops : Array Oper) (D : World → Prop) (Q : Act → World → Prop) : Sch → Act → World → Prop
  | .fin, a, w => Q a w
  | .op i t, a, w => ∃ o, ops[i]? = some o ∧ wpLex P ops ⟨D, 0, none⟩ (wpS P ops D Q t) [o] a w
  | .alt i t u, a, w => (∃ o, ops[i]? = some o ∧ wpLex P ops ⟨D, 0, none⟩ (wpS P ops D Q t) [o] a w) ∧ wpS P ops D Q u a w

theorem Sch.chk_brs : ∀ (t : Sch) (top : Bool) (l : Array Bool), t.chk ops top l = true → ∀ p ∈ t.brs,
    p.1 ∈ Region.ready .any ops l ∧ Region.free .any ops l p.1 = true ∧ p.2.chk ops true (l.setIfInBounds p.1 true) = true ∧ p.2.depth + 1 = t.depth
  | .fin, _, _, _, p, hp => by cases hp
  | .op i t, top, l, h, p, hp => by
    simp only [Sch.chk, Bool.and_eq_true] at h
    simp only [Sch.brs, List.mem_singleton] at hp
    subst hp
    exact ⟨by simpa using h.1.1.2, h.1.2, h.2, rfl⟩
  | .alt i t u, top, l, h, p, hp => by
    simp only [Sch.chk, Bool.and_eq_true] at h
    obtain ⟨⟨⟨⟨⟨_, h1⟩, h2⟩, h3⟩, h4⟩, h5⟩ := h
    simp only [Sch.brs, List.mem_cons] at hp
    rcases hp with rfl | hp
    · exact ⟨by simpa using h1, h2, h3, rfl⟩
    · obtain ⟨a, b, c, d⟩ := Sch.chk_brs u false l h4 p hp
      exact ⟨a, b, c, by rw [d]; exact Nat.eq_of_beq_eq_true h5⟩

theorem wpS_brs : ∀ (t : Sch) (a : Act) (w : World), wpS P ops D Q t a w → ∀ p ∈ t.brs, ∃ o, ops[p.1]? = some o ∧ wpLex P ops ⟨D, 0, none⟩ (wpS P ops D Q p.2) [o] a w
  | .fin, _, _, _, p, hp => by cases hp
  | .op i t, a, w, h, p, hp => by
    simp only [Sch.brs, List.mem_singleton] at hp
    subst hp
    exact h
  | .alt i t u, a, w, h, p, hp => by
    simp only [Sch.brs, List.mem_cons] at hp
    rcases hp with rfl | hp
    · exact h.1
    · exact wpS_brs u a w h.2 p hp

theorem nodeB_of {t : Sch} {l : Array Bool} (h : t.chk ops true l = true) (hd : t.depth ≠ 0) : nodeB ops (t.brs.map (·.1)) l = true := by
  cases t with
  | fin => exact absurd rfl hd
  | op i t => simp only [Sch.chk, Bool.and_eq_true, Bool.not_true, Bool.false_or] at h; exact h.1.1.1
  | alt i t u => simp only [Sch.chk, Bool.and_eq_true, Bool.not_true, Bool.false_or] at h; exact h.1.1.1.1.1

theorem near_size {i : Nat} {w : World} {E : World → Prop} (h : Near ops ⟨D, E⟩ ops.size i w) : D w := by
  refine h.1 fun listed hc _ => ⟨?_, fun hm => ?_⟩
  · have := hc.1; simp [this]
  · obtain ⟨_, ox, hox, _⟩ := mem_ready.1 hm
    simp at hox

theorem wpE_sch (hsel : ∀ (j : Nat) (o : Oper) cs b, ops[j]? = some o → o.op ≠ .select cs b) : ∀ (n : Nat) (t : Sch) (listed : Array Bool) (a : Act) (w : World), t.depth = n → t.chk ops true listed = true → Closed ops listed →
    wpS P ops D Q t a w → wpE P ops ⟨D, fun _ => True⟩ ops.size Q n listed a w
  | 0, t, listed, a, w, hd, hch, hc, h => by
    cases t with
    | fin => exact ⟨by simpa [Sch.chk] using hch, h⟩
    | op i t => simp [Sch.depth] at hd
    | alt i t u => simp [Sch.depth] at hd
  | n + 1, t, listed, a, w, hd, hch, hc, h => by
    have hn := nodeB_of hch (by omega)
    have hb := Sch.chk_brs t true listed hch
    have hw := wpS_brs t a w h
    have hbr : t.brs ≠ [] := by
      cases t with
      | fin => simp [Sch.depth] at hd
      | op i t => simp [Sch.brs]
      | alt i t u => simp [Sch.brs]
    unfold nodeB at hn
    rw [Bool.or_eq_true] at hn
    rcases hn with hq | he
    · -- one quiet operation
      obtain ⟨p, hp⟩ : ∃ p, t.brs = [p] := by
        generalize t.brs = l at *
        match l with
        | [] => exact absurd rfl hbr
        | [p] => exact ⟨p, rfl⟩
        | _ :: _ :: _ => simp at hq
      rw [hp] at hq
      obtain ⟨o, ho, hx⟩ := hw p (by rw [hp]; simp)
      simp only [List.map_cons, List.map_nil, ho] at hq
      obtain ⟨hr, hf, hch', hdp⟩ := hb p (by rw [hp]; simp)
      have ih := fun a w => wpE_sch hsel n p.2 (listed.setIfInBounds p.1 true) a w (by omega) hch' (hc.set hr)
      have hne : p.1 ≠ ops.size := by
        have := (Array.getElem?_eq_some_iff.1 ho).1
        omega
      simp only [wpLex] at hx
      by_cases hwt : Region.wanted o (yielded ops a.tmps) = true
      · rw [if_pos hwt, if_pos hq] at hx
        obtain ⟨v, hv, hK⟩ := hx
        exact wpE_quiet ho hne hsel n listed a w (Region.free_spec ho hf) hr (.inl ⟨hwt, hq, fun w' hnr => hv w' ⟨fun _ => near_size hnr, trivial⟩⟩) (ih _ _ hK)
      · rw [if_neg hwt] at hx
        exact wpE_quiet ho hne hsel n listed a w (Region.free_spec ho hf) hr (.inr ⟨by simpa using hwt, rfl⟩) (ih _ _ hx.2)
    · rw [Bool.and_eq_true] at he
      obtain ⟨hall, hcov⟩ := he
      refine wpE_effs (C := t.brs.map (·.1)) (by simpa using hbr) hsel n listed a w hc ?_ ?_
      · intro i hi
        obtain ⟨p, hp, rfl⟩ := List.mem_map.1 hi
        obtain ⟨o, ho, hx⟩ := hw p hp
        obtain ⟨hr, hf, hch', hdp⟩ := hb p hp
        have he := List.all_eq_true.1 hall p.1 hi
        simp only [effI, ho, Bool.and_eq_true, Bool.not_eq_true'] at he
        have hg : o.guard = none := by
          cases hgu : o.guard with
          | none => rfl
          | some g => rw [hgu] at he; exact absurd he.2 (by simp)
        have hwt : Region.wanted o (yielded ops a.tmps) = true := by simp [Region.wanted, hg]
        simp only [wpLex] at hx
        rw [if_pos hwt, if_neg (by simp [he.1])] at hx
        obtain ⟨Φ, hE, hK⟩ := hx
        refine ⟨o, ho, he.1, Region.free_spec ho hf, hr, hwt, Φ, hE, fun v w' hv => ⟨⟨.inr ?_, trivial⟩, ?_⟩⟩
        · exact (hK v w' hv).1
        · exact wpE_sch hsel n p.2 (listed.setIfInBounds p.1 true) _ _ (by omega) hch' (hc.set hr) (hK v w' hv).2
      · intro listed' hc' hri hsub j oj hj hjC hjr
        have hjs := (Array.getElem?_eq_some_iff.1 hj).1
        have h1 := List.all_eq_true.1 hcov j (List.mem_range.2 hjs)
        simp only [hj, Bool.or_eq_true] at h1
        rcases h1 with ((h1 | h1) | h1) | h1
        · have h4 := hsub j h1
          have h5 := ready_unlisted hjr
          rw [h4] at h5; cases h5
        · exact absurd (by simpa using h1) hjC
        · exact h1
        · obtain ⟨i, hi, hbit⟩ := List.any_eq_true.1 h1
          have hblk := waitM_spec (ops := ops) (i := i) ops.toList 0 0 (fun j => by simp) (fun j hj => by simp at hj) j hbit
          exact absurd hjr (hblk listed' hc' (ready_unlisted (hri i hi))).2

theorem wp_region_sch {id : Nat} {Q' : Exit → Act → World → Prop} {a : Act} {w : World} {l : List Oper} {D : World → Prop} (t : Sch) (hm : P.follows .mixedOrders = true) (hs : Region.noSelect l.toArray = true)
    (hch : t.chk l.toArray true (Array.replicate l.toArray.size false) = true) (hdp : Nat.beq t.depth l.length = true)
    (hD : D { w with drawn := w.drawn + 1 }) (h : wpS P l.toArray D (fun a' w' => Q' .normal a' w') t a { w with drawn := w.drawn + 1 }) : (Code.region id l.toArray true).wp P Q' a w := by
  have hc : Closed l.toArray (Array.replicate l.toArray.size false) := ⟨by simp, fun j oj hj hl => by rw [getD_replicate_false] at hl; cases hl⟩
  refine wp_region_any hm (wpAny_of_wpE (D := ⟨D, fun _ => True⟩) (e := l.toArray.size) (Q := fun a' w' => Q' .normal a' w') (fun _ _ h => h) _ _ _ _ hc ⟨.inr hD, trivial⟩ ?_)
  have := wpE_sch (Region.noSelect_spec hs) l.length t (Array.replicate l.toArray.size false) a { w with drawn := w.drawn + 1 } (Nat.eq_of_beq_eq_true hdp) hch hc h
  simpa using this

end draw

/-! ## Frames -/

abbrev St := List (Nat × Value)

def look : St → Nat → Option Value
  | [], _ => none
  | (i, v) :: r, j => match Nat.beq i j with
    | true => some v
    | false => look r j

structure Sat (n : Nat) (st : St) (a : Act) : Prop where
  size : a.tmps.size = n
  dfr : a.defers = []
  val : ∀ j v, look st j = some v → a.tmps[j]? = some v

def evS (st : St) : Operand → Option Value
  | .tmp t => look st t
  | .const v => some v
  | .global g => some (.pointer (some ⟨g, 0, none⟩))
  | .func f => some (.func (.func f) #[] #[])

def evL (st : St) : List Operand → Option (List Value)
  | [] => some []
  | x :: r => match evS st x with
    | some v => match evL st r with
      | some l => some (v :: l)
      | none => none
    | none => none

def lookL (st : St) : List Nat → Option (List Value)
  | [] => some []
  | x :: r => match look st x with
    | some v => match lookL st r with
      | some l => some (v :: l)
      | none => none
    | none => none

theorem Sat.ev {n : Nat} {st : St} {a : Act} (h : Sat n st a) {x : Operand} {v : Value} (hx : evS st x = some v) : a.eval x = v := by
  cases x with
  | tmp t =>
    have h1 := h.val t v hx
    simp only [Act.eval]
    rw [Array.getD_eq_getD_getElem?, h1]; rfl
  | const c => simp only [evS, Option.some.injEq] at hx; subst hx; rfl
  | global g => simp only [evS, Option.some.injEq] at hx; subst hx; rfl
  | func f => simp only [evS, Option.some.injEq] at hx; subst hx; rfl

theorem Sat.evL {n : Nat} {st : St} {a : Act} (h : Sat n st a) : ∀ {xs : List Operand} {vs : List Value}, evL st xs = some vs → xs.map a.eval = vs
  | [], vs, hx => by simp only [Vc.evL, Option.some.injEq] at hx; subst hx; rfl
  | x :: r, vs, hx => by
    simp only [Vc.evL] at hx
    split at hx
    · rename_i v hv
      split at hx
      · rename_i l hl
        simp only [Option.some.injEq] at hx; subst hx
        simp only [List.map_cons, h.ev hv, h.evL hl]
      · cases hx
    · cases hx

theorem Sat.lookL {n : Nat} {st : St} {a : Act} (h : Sat n st a) : ∀ {xs : List Nat} {vs : List Value}, lookL st xs = some vs → ∀ j v, look (xs.zip vs) j = some v → a.tmps[j]? = some v
  | [], vs, hx, j, v, hj => by simp [look] at hj
  | x :: r, vs, hx, j, v, hj => by
    simp only [Vc.lookL] at hx
    split at hx
    · rename_i u hu
      split at hx
      · rename_i l hl
        simp only [Option.some.injEq] at hx; subst hx
        simp only [List.zip_cons_cons, look] at hj
        split at hj
        · rename_i hb
          have : x = j := Nat.eq_of_beq_eq_true hb
          subst this
          simp only [Option.some.injEq] at hj; subst hj
          exact h.val _ _ hu
        · exact h.lookL hl j v hj
      · cases hx
    · cases hx

theorem Sat.put {n : Nat} {st : St} {a : Act} (h : Sat n st a) {d : Nat} (hd : Nat.blt d n = true) (v : Value) : Sat n ((d, v) :: st) (a.put (some d) v) := by
  have hd' : d < a.tmps.size := by rw [h.size]; exact Nat.le_of_ble_eq_true hd
  refine ⟨by simp [Act.put, h.size], by simp [Act.put, h.dfr], fun j u hj => ?_⟩
  simp only [look] at hj
  simp only [Act.put, Array.getElem?_setIfInBounds]
  split at hj
  · rename_i hb
    have : d = j := Nat.eq_of_beq_eq_true hb
    subst this
    simp only [Option.some.injEq] at hj
    simp [hd', hj]
  · rename_i hb
    have : d ≠ j := Nat.ne_of_beq_eq_false hb
    simp only [this, if_false]
    exact h.val j u hj

theorem Sat.sub {n : Nat} {st st' : St} {a : Act} (h : Sat n st a) (hs : ∀ j v, look st' j = some v → look st j = some v) : Sat n st' a :=
  ⟨h.size, h.dfr, fun j v hj => h.val j v (hs j v hj)⟩

/-! ## The todo list -/

inductive It where
  | code (c : Code)
  | ops (all : Array Oper) (l : List Oper)
  | lex (all : Array Oper) (D : Cls) (l : List Oper)
  | blk (id : Nat)
  | stop (R : Act → World → Prop)
  | sch (all : Array Oper) (D : World → Prop) (t : Sch)

def K (P : Program) (Q : Exit → Act → World → Prop) : List It → Exit → Act → World → Prop
  | [] => Q
  | .code c :: k => fun e a w => match e with
    | .normal => c.wp P (K P Q k) a w
    | e => K P Q k e a w
  | .ops all l :: k => fun e a w => match e with
    | .normal => wpList P all (K P Q k) l a w
    | e => K P Q k e a w
  | .lex all D l :: k => fun e a w => match e with
    | .normal => wpLex P all D (fun a' w' => K P Q k .normal a' w') l a w
    | e => K P Q k e a w
  | .blk id :: k => Exit.inBlock id (K P Q k)
  | .stop R :: k => fun e a w => match e with
    | .normal => R a w
    | e => K P Q k e a w
  | .sch all D t :: k => fun e a w => match e with
    | .normal => wpS P all D (fun a' w' => K P Q k .normal a' w') t a w
    | e => K P Q k e a w

def Go (P : Program) (n : Nat) (Q : Exit → Act → World → Prop) (k : List It) (st : St) (w : World) : Prop :=
  ∀ a, Sat n st a → K P Q k .normal a w

section rules
variable {P : Program} {n : Nat} {Q : Exit → Act → World → Prop} {k : List It} {st : St} {w : World}

theorem go_sub {st' : St} (h : Go P n Q k st' w) (hs : ∀ j v, look st' j = some v → look st j = some v) : Go P n Q k st w :=
  fun a ha => h a (ha.sub hs)

theorem go_seq {x y : Code} (h : Go P n Q (.code x :: .code y :: k) st w) : Go P n Q (.code (.seq x y) :: k) st w := by
  intro a ha
  refine wp_seq (wp_mono (h a ha) fun e a' w' hq => ?_)
  cases e <;> exact hq

theorem go_skip (h : Go P n Q k st w) : Go P n Q (.code .skip :: k) st w := fun a ha => wp_skip (h a ha)

theorem go_label {l : Nat} (h : Go P n Q k st w) : Go P n Q (.code (.label l) :: k) st w := fun a ha => wp_label (h a ha)

theorem go_block {id : Nat} {c : Code} (h : Go P n Q (.code c :: .blk id :: k) st w) : Go P n Q (.code (.block id c) :: k) st w :=
  fun a ha => wp_block (h a ha)

theorem go_blk {id : Nat} (h : Go P n Q k st w) : Go P n Q (.blk id :: k) st w := fun a ha => h a ha

theorem go_region {id : Nat} {l : List Oper} (h : Go P n Q (.ops l.toArray l :: k) st w) : Go P n Q (.code (.region id l.toArray false) :: k) st w :=
  fun a ha => wp_region_lit (h a ha)

theorem go_nil {all : Array Oper} (h : Go P n Q k st w) : Go P n Q (.ops all [] :: k) st w := fun a ha => h a ha

theorem gol_nil {all : Array Oper} {D : Cls} (h : Go P n Q k st w) : Go P n Q (.lex all D [] :: k) st w := fun a ha => h a ha

/-- A region that draws its order, in the order of the text. 'D': what holds of every world on the way. -/
theorem go_draw {id : Nat} {l : List Oper} (D : World → Prop) (hm : P.follows .mixedOrders = true) (hB : Region.lexB .any l.toArray = true) (hE : effB l l 0 = true)
    (hD : D (w.drewN 1)) (h : Go P n Q (.lex l.toArray ⟨D, 0, none⟩ l :: k) st (w.drewN 1)) : Go P n Q (.code (.region id l.toArray true) :: k) st w :=
  fun a ha => wp_region_lex (c := ⟨D, 0, none⟩) hm hB hE (by simp [lastB]) hD trivial (h a ha)

/-- The class holds till the operation that stands 'q' from the end has come up. -/
theorem go_drawE {id : Nat} {l : List Oper} (D : World → Prop) (q : Nat) (hm : P.follows .mixedOrders = true) (hB : Region.lexB .any l.toArray = true) (hE : effB l l 0 = true) (hq : lastB l q = true)
    (hD : D (w.drewN 1)) (h : Go P n Q (.lex l.toArray ⟨D, q, none⟩ l :: k) st (w.drewN 1)) : Go P n Q (.code (.region id l.toArray true) :: k) st w :=
  fun a ha => wp_region_lex (c := ⟨D, q, none⟩) hm hB hE hq hD trivial (h a ha)

/-- Two classes: the first till the operation that stands 'q' from the end has come up, the second to the end. -/
theorem go_drawX {id : Nat} {l : List Oper} (D : World → Prop) (q : Nat) (E : World → Prop) (hm : P.follows .mixedOrders = true) (hB : Region.lexB .any l.toArray = true) (hE : effB l l 0 = true) (hq : lastB l q = true)
    (hD : D (w.drewN 1)) (hE2 : E (w.drewN 1)) (h : Go P n Q (.lex l.toArray ⟨D, q, some E⟩ l :: k) st (w.drewN 1)) : Go P n Q (.code (.region id l.toArray true) :: k) st w :=
  fun a ha => wp_region_lex (c := ⟨D, q, some E⟩) hm hB hE hq hD hE2 (h a ha)

/-- A region that draws, by a schedule. -/
theorem go_sched {id : Nat} {l : List Oper} (D : World → Prop) (t : Sch) (hm : P.follows .mixedOrders = true) (hs : Region.noSelect l.toArray = true) (hch : t.chk l.toArray true (Array.replicate l.toArray.size false) = true) (hdp : Nat.beq t.depth l.length = true)
    (hD : D (w.drewN 1)) (h : Go P n Q (.sch l.toArray D t :: k) st (w.drewN 1)) : Go P n Q (.code (.region id l.toArray true) :: k) st w :=
  fun a ha => wp_region_sch t hm hs hch hdp hD (h a ha)

theorem go_fin {all : Array Oper} {D : World → Prop} (h : Go P n Q k st w) : Go P n Q (.sch all D .fin :: k) st w := fun a ha => h a ha

theorem wpLex_cont {all : Array Oper} {D : World → Prop} {t : Sch} {o : Oper} {a : Act} (h : wpLex P all ⟨D, 0, none⟩ (fun a' w' => K P Q (.sch all D t :: k) .normal a' w') [o] a w) : wpLex P all ⟨D, 0, none⟩ (wpS P all D (fun a' w' => K P Q k .normal a' w') t) [o] a w := h

theorem go_op {l : List Oper} {D : World → Prop} {i : Nat} {t : Sch} {o : Oper} (hi : l[i]? = some o) (h : Go P n Q (.lex l.toArray ⟨D, 0, none⟩ [o] :: .sch l.toArray D t :: k) st w) : Go P n Q (.sch l.toArray D (.op i t) :: k) st w :=
  fun a ha => ⟨o, by simpa using hi, wpLex_cont (h a ha)⟩

theorem go_alt {l : List Oper} {D : World → Prop} {i : Nat} {t u : Sch} {o : Oper} (hi : l[i]? = some o) (h : Go P n Q (.lex l.toArray ⟨D, 0, none⟩ [o] :: .sch l.toArray D t :: k) st w) (h2 : Go P n Q (.sch l.toArray D u :: k) st w) : Go P n Q (.sch l.toArray D (.alt i t u) :: k) st w :=
  fun a ha => ⟨⟨o, by simpa using hi, wpLex_cont (h a ha)⟩, h2 a ha⟩

theorem go_cond {c : Operand} {x y : Code} {b : Bool} (hc : evS st c = some (.bool b)) (ht : b = true → Go P n Q (.code x :: k) st w)
    (hf : b = false → Go P n Q (.code y :: k) st w) : Go P n Q (.code (.cond c x y) :: k) st w :=
  fun a ha => wp_cond_split (ha.ev hc) (fun h => ht h a ha) (fun h => hf h a ha)

theorem go_if {c : Operand} {x y : Code} {p : Prop} [Decidable p] (hc : evS st c = some (.bool (decide p))) (ht : p → Go P n Q (.code x :: k) st w)
    (hf : ¬ p → Go P n Q (.code y :: k) st w) : Go P n Q (.code (.cond c x y) :: k) st w :=
  go_cond hc (fun h => ht (of_decide_eq_true h)) (fun h => hf (of_decide_eq_false h))

theorem go_ifeq {c : Operand} {x y : Code} {a b : Int} (hc : evS st c = some (.bool (a == b))) (ht : a = b → Go P n Q (.code x :: k) st w)
    (hf : a ≠ b → Go P n Q (.code y :: k) st w) : Go P n Q (.code (.cond c x y) :: k) st w :=
  go_cond hc (fun h => ht (beq_iff_eq.1 h)) (fun h => hf (beq_eq_false_iff_ne.1 h))

theorem go_ifne {c : Operand} {x y : Code} {a b : Int} (hc : evS st c = some (.bool (a != b))) (ht : a ≠ b → Go P n Q (.code x :: k) st w)
    (hf : a = b → Go P n Q (.code y :: k) st w) : Go P n Q (.code (.cond c x y) :: k) st w :=
  go_cond hc (fun h => ht (bne_iff_ne.1 h)) (fun h => hf (bne_eq_false_iff_eq.1 h))

theorem go_cond_t {c : Operand} {x y : Code} {b : Bool} (hc : evS st c = some (.bool b)) (hb : b = true) (h : Go P n Q (.code x :: k) st w) :
    Go P n Q (.code (.cond c x y) :: k) st w := by
  subst hb; exact fun a ha => wp_cond_true (ha.ev hc) (h a ha)

theorem go_cond_f {c : Operand} {x y : Code} {b : Bool} (hc : evS st c = some (.bool b)) (hb : b = false) (h : Go P n Q (.code y :: k) st w) :
    Go P n Q (.code (.cond c x y) :: k) st w := by
  subst hb; exact fun a ha => wp_cond_false (ha.ev hc) (h a ha)

/-! ### Leaving blocks; returning -/

def exitK (id : Nat) : List It → Option (List It)
  | [] => none
  | .blk j :: k => match Nat.beq j id with
    | true => some k
    | false => exitK id k
  | _ :: k => exitK id k

theorem K_exit {id : Nat} : ∀ {k k' : List It} {a : Act} {w : World}, exitK id k = some k' → K P Q k' .normal a w → K P Q k (.exit id) a w
  | [], _, _, _, h, _ => by cases h
  | .blk j :: k, k', a, w, h, hk => by
    simp only [exitK] at h
    show Exit.inBlock j (K P Q k) (.exit id) a w
    simp only [Exit.inBlock]
    split at h
    · rename_i hb
      have : j = id := Nat.eq_of_beq_eq_true hb
      simp only [Option.some.injEq] at h; subst h
      rw [if_pos this.symm]; exact hk
    · rename_i hb
      have : j ≠ id := Nat.ne_of_beq_eq_false hb
      rw [if_neg (Ne.symm this)]
      exact K_exit h hk
  | .code c :: k, k', a, w, h, hk => K_exit (k := k) h hk
  | .ops _ _ :: k, k', a, w, h, hk => K_exit (k := k) h hk
  | .lex _ _ _ :: k, k', a, w, h, hk => K_exit (k := k) h hk
  | .stop _ :: k, k', a, w, h, hk => K_exit (k := k) h hk
  | .sch _ _ _ :: k, k', a, w, h, hk => K_exit (k := k) h hk

theorem K_ret : ∀ {k : List It} {a : Act} {w : World}, Q .ret a w → K P Q k .ret a w
  | [], _, _, h => h
  | .blk _ :: k, a, w, h => K_ret (k := k) h
  | .code _ :: k, a, w, h => K_ret (k := k) h
  | .ops _ _ :: k, a, w, h => K_ret (k := k) h
  | .lex _ _ _ :: k, a, w, h => K_ret (k := k) h
  | .stop _ :: k, a, w, h => K_ret (k := k) h
  | .sch _ _ _ :: k, a, w, h => K_ret (k := k) h

theorem K_outgrown : ∀ {k : List It} {a : Act} {w : World}, Q .outgrown a w → K P Q k .outgrown a w
  | [], _, _, h => h
  | .blk _ :: k, a, w, h => K_outgrown (k := k) h
  | .code _ :: k, a, w, h => K_outgrown (k := k) h
  | .ops _ _ :: k, a, w, h => K_outgrown (k := k) h
  | .lex _ _ _ :: k, a, w, h => K_outgrown (k := k) h
  | .stop _ :: k, a, w, h => K_outgrown (k := k) h
  | .sch _ _ _ :: k, a, w, h => K_outgrown (k := k) h

theorem go_exit {id : Nat} {k' : List It} (hx : exitK id k = some k') (h : Go P n Q k' st w) : Go P n Q (.code (.exit id) :: k) st w :=
  fun a ha => wp_exit (K_exit hx (h a ha))

theorem go_ret (h : ∀ a, Sat n st a → Q .ret a w) : Go P n Q (.code .ret :: k) st w := fun a ha => wp_ret (K_ret (h a ha))

/-! ### Loops and cuts -/

/-- What is asked at the end of a round or of a piece: the slots 'L' hold 'sh g', the slots of 'keep' are as they were, and 'I g' holds. -/
def Meet {G : Type} (n : Nat) (L : List Nat) (sh : G → List Value) (keep : St) (I : G → World → Prop) (ok : G → Prop) (a : Act) (w : World) : Prop :=
  ∃ g, Sat n (L.zip (sh g) ++ keep) a ∧ I g w ∧ ok g

def keepB (st : St) : St → Prop
  | [] => True
  | (i, v) :: r => look st i = some v ∧ keepB st r

theorem look_append {s1 s2 : St} {j : Nat} : look (s1 ++ s2) j = match look s1 j with
    | some v => some v
    | none => look s2 j := by
  induction s1 with
  | nil => rfl
  | cons x r ih =>
    obtain ⟨i, v⟩ := x
    simp only [List.cons_append, look]
    cases Nat.beq i j with
    | true => rfl
    | false => exact ih

theorem keepB_sat {st keep : St} {a : Act} (h : Sat n st a) : ∀ {keep : St}, keepB st keep → ∀ j v, look keep j = some v → a.tmps[j]? = some v
  | [], _, j, v, hj => by cases hj
  | (i, u) :: r, hk, j, v, hj => by
    simp only [look] at hj
    split at hj
    · rename_i hb
      have : i = j := Nat.eq_of_beq_eq_true hb
      subst this
      simp only [Option.some.injEq] at hj; subst hj
      exact h.val _ _ hk.1
    · exact keepB_sat (keep := keep) h hk.2 j v hj

theorem Sat.meet {st keep : St} {a : Act} (h : Sat n st a) {L : List Nat} {vs : List Value} (hL : Vc.lookL st L = some vs) (hk : keepB st keep) : Sat n (L.zip vs ++ keep) a := by
  refine ⟨h.size, h.dfr, fun j v hj => ?_⟩
  rw [look_append] at hj
  split at hj
  · rename_i u hu
    simp only [Option.some.injEq] at hj; subst hj
    exact h.lookL hL j _ hu
  · exact keepB_sat (keep := keep) h hk j v hj

theorem go_stop {G : Type} {L : List Nat} {sh : G → List Value} {keep : St} {I : G → World → Prop} {ok : G → Prop} (g : G)
    (hL : lookL st L = some (sh g)) (hk : keepB st keep) (hI : I g w) (hok : ok g) : Go P n Q (.stop (Meet n L sh keep I ok) :: k) st w :=
  fun _ ha => ⟨g, ha.meet hL hk, hI, hok⟩

theorem go_loop {G : Type} {c : Code} (L : List Nat) (sh : G → List Value) (keep : St) (I : G → World → Prop) (μ : G → Nat) (g0 : G)
    (hL : lookL st L = some (sh g0)) (hk : keepB st keep) (hI : I g0 w)
    (hr : ∀ g w, I g w → Go P n Q (.code c :: .stop (Meet n L sh keep I (fun g' => μ g' < μ g)) :: k) (L.zip (sh g) ++ keep) w) :
    Go P n Q (.code (.loop c) :: k) st w := by
  intro a ha
  show (Code.loop c).wp P (K P Q k) a w
  -- the measure of a state is the least measure of a ghost that fits
  have key : ∀ m g a w, μ g = m → Sat n (L.zip (sh g) ++ keep) a → I g w → ∀ (b : Frame) (kk : List Item) (cs : List Frame),
      ∃ e a' w', K P Q k e a' w' ∧ Arrives P (lone (b.at a (.code c :: .inLoop c :: kk)) cs w) b kk cs e a' w' := by
    intro m
    induction m using Nat.strongRecOn with
    | _ m ih =>
      intro g a w hm hs hI b kk cs
      obtain ⟨e, a₁, w₁, hq, harr⟩ := hr g w hI a hs b (.inLoop c :: kk) cs
      cases e with
      | normal =>
        obtain ⟨g', hs', hI', hlt⟩ := hq
        obtain ⟨e₂, a₂, w₂, hq₂, harr₂⟩ := ih (μ g') (by rw [← hm]; exact hlt) g' a₁ w₁ rfl hs' hI' b kk cs
        exact ⟨e₂, a₂, w₂, hq₂, .of_steps (Steps.trans harr (.one step_inLoop)) harr₂⟩
      | exit id => exact ⟨_, a₁, w₁, hq, .pass (x := .inLoop c) rfl (fun _ _ => .inl (by simp)) harr⟩
      | goto l => exact ⟨_, a₁, w₁, hq, .pass (x := .inLoop c) rfl (fun _ _ => .inl (by simp)) harr⟩
      | ret => exact ⟨_, a₁, w₁, hq, .pass (x := .inLoop c) rfl (fun _ _ => .inl (by simp)) harr⟩
      | panic ch => exact ⟨_, a₁, w₁, hq, .pass (x := .inLoop c) rfl (fun _ _ => .inl (by simp)) harr⟩
      | outgrown => exact ⟨_, a₁, w₁, hq, .pass (x := .inLoop c) rfl (fun _ _ => .inl (by simp)) harr⟩
  intro b kk cs
  obtain ⟨e, a', w', hq, harr⟩ := key _ g0 a w rfl (ha.meet hL hk) hI b kk cs
  exact ⟨e, a', w', hq, .of_steps (.one step_loop) harr⟩

/-- A piece of code by what it comes to: the ways through it meet again. -/
theorem go_cut {G : Type} {c : Code} (L : List Nat) (sh : G → List Value) (keep : St) (I : G → World → Prop)
    (h1 : Go P n Q (.code c :: .stop (Meet n L sh keep I (fun _ => True)) :: k) st w)
    (h2 : ∀ g w, I g w → Go P n Q k (L.zip (sh g) ++ keep) w) : Go P n Q (.code c :: k) st w := by
  intro a ha
  refine wp_mono (h1 a ha) fun e a' w' hq => ?_
  cases e with
  | normal => obtain ⟨g, hs, hI, _⟩ := hq; exact h2 g w' hI a' hs
  | _ => exact hq

end rules

/-! ## Operations -/

/-- The operation yields 'v' in every world, and leaves it as it was. -/
def PureRun (P : Program) (st : St) (op : Op) (v : Value) : Prop :=
  ∀ (n : Nat) (a : Act) (w : World), Sat n st a → ∀ (d : Option Tmp) (t : TypeId) (p : String) (af : Array Edge),
    (execOp a.eval ⟨d, op, t, p, af, none⟩).run P w = .ok (.value v) w

section ops
variable {P : Program} {n : Nat} {Q : Exit → Act → World → Prop} {k : List It} {st : St} {w : World}
variable {all : Array Oper} {rest : List Oper} {d : Nat} {op : Op} {t : TypeId} {p : String} {af : Array Edge} {v : Value}

theorem go_val {w' : World} (hd : Nat.blt d n = true) (hr : ∀ a, Sat n st a → (execOp a.eval ⟨some d, op, t, p, af, none⟩).run P w = .ok (.value v) w')
    (h : Go P n Q (.ops all rest :: k) ((d, v) :: st) w') : Go P n Q (.ops all (⟨some d, op, t, p, af, none⟩ :: rest) :: k) st w := by
  intro a ha
  refine wpList_plain rfl fun K' hK => ?_
  unfold Oper.wp
  rw [hr a ha, Oper.upon_value]
  exact hK _ _ (h _ (ha.put hd v))

theorem go_unit {w' : World} (hr : ∀ a, Sat n st a → (execOp a.eval ⟨none, op, t, p, af, none⟩).run P w = .ok .skip w')
    (h : Go P n Q (.ops all rest :: k) st w') : Go P n Q (.ops all (⟨none, op, t, p, af, none⟩ :: rest) :: k) st w := by
  intro a ha
  refine wpList_plain rfl fun K' hK => ?_
  unfold Oper.wp
  rw [hr a ha, Oper.upon_skip]
  exact hK _ _ (h _ ha)

variable {D : Cls}

theorem gol_val (hq : quietK op = true) (hd : Nat.blt d n = true) (hr : ∀ a, Sat n st a → ∀ w', (waitsB all rest D.q = true → D.D w') → (execOp a.eval ⟨some d, op, t, p, af, none⟩).run P w' = .ok (.value v) w')
    (h : Go P n Q (.lex all D rest :: k) ((d, v) :: st) w) : Go P n Q (.lex all D (⟨some d, op, t, p, af, none⟩ :: rest) :: k) st w := by
  intro a ha
  show wpLex P all D _ _ a w
  simp only [wpLex, Region.wanted, if_true, hq]
  exact ⟨v, fun w' hw' => hr a ha w' hw'.1, h _ (ha.put hd v)⟩

theorem gol_valE (hq : quietK op = true) (hd : Nat.blt d n = true) (hr : ∀ a, Sat n st a → ∀ w', D.al2 w' → (execOp a.eval ⟨some d, op, t, p, af, none⟩).run P w' = .ok (.value v) w')
    (h : Go P n Q (.lex all D rest :: k) ((d, v) :: st) w) : Go P n Q (.lex all D (⟨some d, op, t, p, af, none⟩ :: rest) :: k) st w := by
  intro a ha
  show wpLex P all D _ _ a w
  simp only [wpLex, Region.wanted, if_true, hq]
  exact ⟨v, fun w' hw' => hr a ha w' hw'.2, h _ (ha.put hd v)⟩

theorem gol_val0 (hq : quietK op = true) (hr : ∀ a, Sat n st a → ∀ w', (waitsB all rest D.q = true → D.D w') → (execOp a.eval ⟨none, op, t, p, af, none⟩).run P w' = .ok (.value v) w')
    (h : Go P n Q (.lex all D rest :: k) st w) : Go P n Q (.lex all D (⟨none, op, t, p, af, none⟩ :: rest) :: k) st w := by
  intro a ha
  show wpLex P all D _ _ a w
  simp only [wpLex, Region.wanted, if_true, hq]
  exact ⟨v, fun w' hw' => hr a ha w' hw'.1, h _ ha⟩

theorem gol_eff {Φ : Value → World → Prop} (hq : quietK op = false) (hd : Nat.blt d n = true) (hr : ∀ a, Sat n st a → EffAt P ⟨some d, op, t, p, af, none⟩ a w Φ)
    (h : ∀ v w', Φ v w' → D.aft rest w' ∧ Go P n Q (.lex all D rest :: k) ((d, v) :: st) w') : Go P n Q (.lex all D (⟨some d, op, t, p, af, none⟩ :: rest) :: k) st w := by
  intro a ha
  show wpLex P all D _ _ a w
  simp only [wpLex, Region.wanted, if_true, hq, Bool.false_eq_true, if_false]
  exact ⟨Φ, hr a ha, fun v w' hv => ⟨(h v w' hv).1, (h v w' hv).2 _ (ha.put hd v)⟩⟩

theorem gol_eff0 {Φ : Value → World → Prop} (hq : quietK op = false) (hr : ∀ a, Sat n st a → EffAt P ⟨none, op, t, p, af, none⟩ a w Φ)
    (h : ∀ v w', Φ v w' → D.aft rest w' ∧ Go P n Q (.lex all D rest :: k) st w') : Go P n Q (.lex all D (⟨none, op, t, p, af, none⟩ :: rest) :: k) st w := by
  intro a ha
  show wpLex P all D _ _ a w
  simp only [wpLex, Region.wanted, if_true, hq, Bool.false_eq_true, if_false]
  exact ⟨Φ, hr a ha, fun v w' hv => ⟨(h v w' hv).1, (h v w' hv).2 _ ha⟩⟩

/-- An operation with an effect whose run is known. -/
theorem gol_run {w' : World} (hq : quietK op = false) (hd : Nat.blt d n = true) (hr : ∀ a, Sat n st a → (execOp a.eval ⟨some d, op, t, p, af, none⟩).run P w = .ok (.value v) w')
    (hD : D.aft rest w') (h : Go P n Q (.lex all D rest :: k) ((d, v) :: st) w') : Go P n Q (.lex all D (⟨some d, op, t, p, af, none⟩ :: rest) :: k) st w :=
  gol_eff (Φ := fun u x => u = v ∧ x = w') hq hd (fun a ha => by unfold EffAt; rw [hr a ha]; exact ⟨rfl, rfl⟩) (by rintro u x ⟨rfl, rfl⟩; exact ⟨hD, h⟩)

theorem gol_unit {w' : World} (hq : quietK op = false) (hr : ∀ a, Sat n st a → (execOp a.eval ⟨none, op, t, p, af, none⟩).run P w = .ok .skip w')
    (hD : D.aft rest w') (h : Go P n Q (.lex all D rest :: k) st w') : Go P n Q (.lex all D (⟨none, op, t, p, af, none⟩ :: rest) :: k) st w :=
  gol_eff0 (Φ := fun _ x => x = w') hq (fun a ha => by unfold EffAt; rw [hr a ha]) (by rintro u x rfl; exact ⟨hD, h⟩)

theorem go_p (hd : Nat.blt d n = true) (hp : PureRun P st op v) (h : Go P n Q (.ops all rest :: k) ((d, v) :: st) w) :
    Go P n Q (.ops all (⟨some d, op, t, p, af, none⟩ :: rest) :: k) st w :=
  go_val hd (fun a ha => hp n a w ha _ _ _ _) h

theorem gol_p (hq : quietK op = true) (hd : Nat.blt d n = true) (hp : PureRun P st op v) (h : Go P n Q (.lex all D rest :: k) ((d, v) :: st) w) :
    Go P n Q (.lex all D (⟨some d, op, t, p, af, none⟩ :: rest) :: k) st w :=
  gol_val hq hd (fun a ha w' _ => hp n a w' ha _ _ _ _) h

theorem go_p0 (hp : PureRun P st op v) (h : Go P n Q (.ops all rest :: k) st w) :
    Go P n Q (.ops all (⟨none, op, t, p, af, none⟩ :: rest) :: k) st w := by
  intro a ha
  refine wpList_plain rfl fun K' hK => ?_
  unfold Oper.wp
  rw [hp n a w ha _ _ _ _, Oper.upon_value]
  exact hK _ _ (h _ ha)

theorem gol_p0 (hq : quietK op = true) (hp : PureRun P st op v) (h : Go P n Q (.lex all D rest :: k) st w) :
    Go P n Q (.lex all D (⟨none, op, t, p, af, none⟩ :: rest) :: k) st w :=
  gol_val0 hq (fun a ha w' _ => hp n a w' ha _ _ _ _) h

/-! ### Guards -/

def nthDst : List Oper → Nat → Option Nat
  | [], _ => none
  | o :: _, 0 => o.dst
  | _ :: r, j + 1 => nthDst r j

theorem nthDst_spec : ∀ {l : List Oper} {j dj : Nat}, nthDst l j = some dj → ((l.toArray[j]?).bind (·.dst)) = some dj
  | [], _, _, h => by cases h
  | o :: r, 0, dj, h => by simpa [nthDst] using h
  | o :: r, j + 1, dj, h => by
    have := nthDst_spec (l := r) (j := j) h
    simpa using this

theorem yielded_of {l0 : List Oper} {j dj : Nat} {a : Act} {b : Bool} (ha : Sat n st a) (ho : nthDst l0 j = some dj) (hy : look st dj = some (.bool b)) :
    yielded l0.toArray a.tmps j = some b := by
  unfold yielded
  rw [nthDst_spec ho]
  simp only [Option.bind_some, ha.val _ _ hy]

variable {l0 : List Oper} {j dj : Nat} {b want : Bool} {d' : Option Tmp}

theorem wanted_of {a : Act} (ha : Sat n st a) (ho : nthDst l0 j = some dj) (hy : look st dj = some (.bool b)) (op : Op) :
    Region.wanted ⟨d', op, t, p, af, some (j, want)⟩ (yielded l0.toArray a.tmps) = (some b == some want) := by
  simp only [Region.wanted, yielded_of ha ho hy]

theorem go_guard_t (ho : nthDst l0 j = some dj) (hy : look st dj = some (.bool want))
    (h : Go P n Q (.ops l0.toArray (⟨d', op, t, p, af, none⟩ :: rest) :: k) st w) :
    Go P n Q (.ops l0.toArray (⟨d', op, t, p, af, some (j, want)⟩ :: rest) :: k) st w := by
  intro a ha
  have h1 := h a ha
  show wpList P _ _ _ a w
  unfold wpList
  rw [if_pos (by rw [wanted_of ha ho hy]; simp)]
  have h2 : wpList P l0.toArray (K P Q k) (⟨d', op, t, p, af, none⟩ :: rest) a w := h1
  unfold wpList at h2
  rw [if_pos (by simp [Region.wanted])] at h2
  exact h2

theorem wanted_x {a : Act} (ha : Sat n st a) (ho : nthDst l0 j = some dj) (hy : look st dj = some undef) (op : Op) :
    Region.wanted ⟨d', op, t, p, af, some (j, want)⟩ (yielded l0.toArray a.tmps) = false := by
  have : yielded l0.toArray a.tmps j = none := by
    unfold yielded
    rw [nthDst_spec ho]
    simp only [Option.bind_some, ha.val _ _ hy]
    rfl
  simp only [Region.wanted, this]
  rfl

theorem go_guard_x (ho : nthDst l0 j = some dj) (hy : look st dj = some undef) (hd : Nat.blt d n = true)
    (h : Go P n Q (.ops l0.toArray rest :: k) ((d, undef) :: st) w) :
    Go P n Q (.ops l0.toArray (⟨some d, op, t, p, af, some (j, want)⟩ :: rest) :: k) st w := by
  intro a ha
  show wpList P _ _ _ a w
  unfold wpList
  rw [if_neg (by rw [wanted_x ha ho hy]; simp)]
  exact h _ (ha.put hd undef)

theorem go_guard_x0 (ho : nthDst l0 j = some dj) (hy : look st dj = some undef)
    (h : Go P n Q (.ops l0.toArray rest :: k) st w) :
    Go P n Q (.ops l0.toArray (⟨none, op, t, p, af, some (j, want)⟩ :: rest) :: k) st w := by
  intro a ha
  show wpList P _ _ _ a w
  unfold wpList
  rw [if_neg (by rw [wanted_x ha ho hy]; simp)]
  exact h _ ha

theorem go_guard_f (ho : nthDst l0 j = some dj) (hy : look st dj = some (.bool (!want))) (hd : Nat.blt d n = true)
    (h : Go P n Q (.ops l0.toArray rest :: k) ((d, undef) :: st) w) :
    Go P n Q (.ops l0.toArray (⟨some d, op, t, p, af, some (j, want)⟩ :: rest) :: k) st w := by
  intro a ha
  show wpList P _ _ _ a w
  unfold wpList
  rw [if_neg (by rw [wanted_of ha ho hy]; cases want <;> simp)]
  exact h _ (ha.put hd undef)

theorem go_guard_f0 (ho : nthDst l0 j = some dj) (hy : look st dj = some (.bool (!want)))
    (h : Go P n Q (.ops l0.toArray rest :: k) st w) :
    Go P n Q (.ops l0.toArray (⟨none, op, t, p, af, some (j, want)⟩ :: rest) :: k) st w := by
  intro a ha
  show wpList P _ _ _ a w
  unfold wpList
  rw [if_neg (by rw [wanted_of ha ho hy]; cases want <;> simp)]
  exact h _ ha

theorem gol_guard_t (ho : nthDst l0 j = some dj) (hy : look st dj = some (.bool want))
    (h : Go P n Q (.lex l0.toArray D (⟨d', op, t, p, af, none⟩ :: rest) :: k) st w) :
    Go P n Q (.lex l0.toArray D (⟨d', op, t, p, af, some (j, want)⟩ :: rest) :: k) st w := by
  intro a ha
  have h1 := h a ha
  show wpLex P l0.toArray D _ _ a w
  unfold wpLex
  rw [if_pos (by rw [wanted_of ha ho hy]; simp)]
  have h2 : wpLex P l0.toArray D _ (⟨d', op, t, p, af, none⟩ :: rest) a w := h1
  unfold wpLex at h2
  rw [if_pos (by simp [Region.wanted])] at h2
  exact h2

theorem gol_guard_x (ho : nthDst l0 j = some dj) (hy : look st dj = some undef) (hd : Nat.blt d n = true)
    (h : Go P n Q (.lex l0.toArray D rest :: k) ((d, undef) :: st) w) (hq : Nat.beq (rest.length + 1) D.q = false := by rfl) :
    Go P n Q (.lex l0.toArray D (⟨some d, op, t, p, af, some (j, want)⟩ :: rest) :: k) st w := by
  intro a ha
  show wpLex P l0.toArray D _ _ a w
  unfold wpLex
  rw [if_neg (by rw [wanted_x ha ho hy]; simp)]
  exact ⟨hq, h _ (ha.put hd undef)⟩

theorem gol_guard_x0 (ho : nthDst l0 j = some dj) (hy : look st dj = some undef)
    (h : Go P n Q (.lex l0.toArray D rest :: k) st w) (hq : Nat.beq (rest.length + 1) D.q = false := by rfl) :
    Go P n Q (.lex l0.toArray D (⟨none, op, t, p, af, some (j, want)⟩ :: rest) :: k) st w := by
  intro a ha
  show wpLex P l0.toArray D _ _ a w
  unfold wpLex
  rw [if_neg (by rw [wanted_x ha ho hy]; simp)]
  exact ⟨hq, h _ ha⟩

theorem gol_guard_f (ho : nthDst l0 j = some dj) (hy : look st dj = some (.bool (!want))) (hd : Nat.blt d n = true)
    (h : Go P n Q (.lex l0.toArray D rest :: k) ((d, undef) :: st) w) (hq : Nat.beq (rest.length + 1) D.q = false := by rfl) :
    Go P n Q (.lex l0.toArray D (⟨some d, op, t, p, af, some (j, want)⟩ :: rest) :: k) st w := by
  intro a ha
  show wpLex P l0.toArray D _ _ a w
  unfold wpLex
  rw [if_neg (by rw [wanted_of ha ho hy]; cases want <;> simp)]
  exact ⟨hq, h _ (ha.put hd undef)⟩

theorem gol_guard_f0 (ho : nthDst l0 j = some dj) (hy : look st dj = some (.bool (!want)))
    (h : Go P n Q (.lex l0.toArray D rest :: k) st w) (hq : Nat.beq (rest.length + 1) D.q = false := by rfl) :
    Go P n Q (.lex l0.toArray D (⟨none, op, t, p, af, some (j, want)⟩ :: rest) :: k) st w := by
  intro a ha
  show wpLex P l0.toArray D _ _ a w
  unfold wpLex
  rw [if_neg (by rw [wanted_of ha ho hy]; cases want <;> simp)]
  exact ⟨hq, h _ ha⟩

theorem look_set {d : Nat} {v : Value} (h : look st d = some v) (j : Nat) : look ((d, v) :: st) j = look st j := by
  simp only [look]
  split
  · rename_i hb
    have : d = j := Nat.eq_of_beq_eq_true hb
    subst this; exact h.symm
  · rfl

/-- A slot that is known to hold a Bool: part on it. -/
theorem go_bool {ks : List It} (dj : Nat) (hy : look st dj = some (.bool b)) (ht : b = true → Go P n Q ks ((dj, .bool true) :: st) w)
    (hf : b = false → Go P n Q ks ((dj, .bool false) :: st) w) : Go P n Q ks st w := by
  intro a ha
  cases b with
  | true => exact ht rfl a (ha.sub fun j v h => by rwa [look_set hy] at h)
  | false => exact hf rfl a (ha.sub fun j v h => by rwa [look_set hy] at h)

/-- A slot whose value may be written in another way. -/
theorem go_as {ks : List It} (dj : Nat) {u u' : Value} (hy : look st dj = some u) (he : u = u') (h : Go P n Q ks ((dj, u') :: st) w) : Go P n Q ks st w := by
  subst he
  intro a ha
  exact h a (ha.sub fun j v h => by rwa [look_set hy] at h)

end ops

/-! ### Pure operations -/

def binI (op : BinOp) (k : IntKind) (a : Int) (b : Int) : Option Value :=
  match op with
  | .add => some (.int k (k.wrap (a + b)))
  | .sub => some (.int k (k.wrap (a - b)))
  | .mul => some (.int k (k.wrap (a * b)))
  | .eql => some (.bool (a == b))
  | .neq => some (.bool (a != b))
  | .lss => some (.bool (decide (a < b)))
  | .leq => some (.bool (decide (a ≤ b)))
  | .gtr => some (.bool (decide (b < a)))
  | .geq => some (.bool (decide (b ≤ a)))
  | .and => some (.int k (k.wrap (BitVec.ofInt k.bits a &&& BitVec.ofInt k.bits b).toNat))
  | .or => some (.int k (k.wrap (BitVec.ofInt k.bits a ||| BitVec.ofInt k.bits b).toNat))
  | .xor => some (.int k (k.wrap (BitVec.ofInt k.bits a ^^^ BitVec.ofInt k.bits b).toNat))
  | _ => none

def sameKind : IntKind → IntKind → Bool
  | .i8, .i8 | .i16, .i16 | .i32, .i32 | .i64, .i64 | .u8, .u8 | .u16, .u16 | .u32, .u32 | .u64, .u64 => true
  | _, _ => false

theorem sameKind_eq {a b : IntKind} (h : sameKind a b = true) : a = b := by cases a <;> cases b <;> first | rfl | cases h

def pureOp (st : St) : Op → Option Value
  | .move x => evS st x
  | .assign x => evS st x
  | .pick c x y => match evS st c with
    | some (.bool true) => evS st x
    | some (.bool false) => evS st y
    | _ => none
  | .binOp op _ x y _ => match evS st x with
    | some (.int k a) => match evS st y with
      | some (.int k' b) => match sameKind k k' with
        | true => binI op k a b
        | false => none
      | _ => none
    | _ => none
  | .unOp .not _ x => match evS st x with
    | some (.bool b) => some (.bool (!b))
    | _ => none
  | .unOp .neg _ x => match evS st x with
    | some (.int k a) => some (.int k (k.wrap (0 - a)))
    | _ => none
  | .extract x i => match evS st x with
    | some (.tuple vs) => vs.toList[i]?
    | _ => none
  | .nilCheck x => match evS st x with
    | some (.pointer (some q)) => some (.pointer (some q))
    | _ => none
  | _ => none

section pure
variable {P : Program} {st : St}

theorem run_binI {op : BinOp} {k : IntKind} {a b : Int} {v : Value} (h : binI op k a b = some v) (tx : TypeId) (w : World) :
    (binOp op tx (.int k a) (.int k b)).run P w = .ok v w := by
  cases op <;> simp only [binI, Option.some.injEq, reduceCtorEq] at h <;> subst h <;>
    simp [binOp, Op.intArith, Op.intCmp, Op.intBits]

theorem pr_basic {op : Op} {v : Value} (h : pureOp st op = some v) : PureRun P st op v := by
  intro n a w ha d t p af
  cases op with
  | move x => simp only [pureOp] at h; simp [execOp, ha.ev h]
  | assign x => simp only [pureOp] at h; simp [execOp, ha.ev h]
  | pick c x y =>
    simp only [pureOp] at h
    split at h
    · rename_i hc; simp [execOp, ha.ev hc, ha.ev h, asBool]
    · rename_i hc; simp [execOp, ha.ev hc, ha.ev h, asBool]
    · cases h
  | binOp o tx x y ty =>
    simp only [pureOp] at h
    split at h
    · rename_i k a1 hx
      split at h
      · rename_i k' b1 hy
        split at h
        · rename_i hk
          have := sameKind_eq hk
          subst this
          simp only [execOp, ha.ev hx, ha.ev hy]
          have hg : (eqGuard o tx x y (.int k a1) (.int k b1)).run P w = .ok () w := by
            unfold eqGuard; cases o <;> simp
          simp [hg, run_binI h]
        · cases h
      · cases h
    · cases h
  | unOp o tx x =>
    cases o <;> simp only [pureOp] at h
    all_goals first
      | (split at h
         · rename_i hx
           simp only [Option.some.injEq] at h; subst h
           simp [execOp, ha.ev hx, Op.unary, Op.intArith]
         · cases h)
      | cases h
  | extract x i =>
    simp only [pureOp] at h
    split at h
    · rename_i vs hx
      have h' : vs[i]? = some v := by simpa using h
      simp [execOp, ha.ev hx, Instr.extract, h']
    · cases h
  | nilCheck x =>
    simp only [pureOp] at h
    split at h
    · rename_i q hx
      simp only [Option.some.injEq] at h; subst h
      simp [execOp, ha.ev hx]
    · cases h
  | _ => cases h

def moveOp (st : St) : Op → Option Value
  | .move x => evS st x
  | .assign x => evS st x
  | _ => none

theorem pr_basic0 {op : Op} {v : Value} (h : moveOp st op = some v) : PureRun P st op v := by
  refine pr_basic ?_
  cases op <;> first | exact h | cases h

def noBits : Op → Bool
  | .binOp .and .. | .binOp .or .. | .binOp .xor .. => false
  | _ => true

theorem pr_basicA {op : Op} {v : Value} (_ : noBits op = true) (h : pureOp st op = some v) : PureRun P st op v := pr_basic h

/-! Integers of which the walk is told that they fit. -/

def InR : IntKind → Int → Prop
  | .i8, n => -128 ≤ n ∧ n ≤ 127
  | .i16, n => -32768 ≤ n ∧ n ≤ 32767
  | .i32, n => -2147483648 ≤ n ∧ n ≤ 2147483647
  | .i64, n => -9223372036854775808 ≤ n ∧ n ≤ 9223372036854775807
  | .u8, n => 0 ≤ n ∧ n ≤ 255
  | .u16, n => 0 ≤ n ∧ n ≤ 65535
  | .u32, n => 0 ≤ n ∧ n ≤ 4294967295
  | .u64, n => 0 ≤ n ∧ n ≤ 18446744073709551615

theorem wrap_in {k : IntKind} {n : Int} (h : InR k n) : k.wrap n = n := by
  cases k <;> simp only [InR] at h <;> simp [IntKind.wrap, IntKind.bits, IntKind.signed] <;> omega

variable {x y : Operand} {tx ty : TypeId} {k : IntKind} {a b : Int}

theorem pr_add (hx : evS st x = some (.int k a)) (hy : evS st y = some (.int k b)) (h : InR k (a + b)) : PureRun P st (.binOp .add tx x y ty) (.int k (a + b)) := by
  refine pr_basic ?_
  have : sameKind k k = true := by cases k <;> rfl
  simp only [pureOp, hx, hy, this, binI, wrap_in h]

theorem pr_sub (hx : evS st x = some (.int k a)) (hy : evS st y = some (.int k b)) (h : InR k (a - b)) : PureRun P st (.binOp .sub tx x y ty) (.int k (a - b)) := by
  refine pr_basic ?_
  have : sameKind k k = true := by cases k <;> rfl
  simp only [pureOp, hx, hy, this, binI, wrap_in h]

theorem pr_mul (hx : evS st x = some (.int k a)) (hy : evS st y = some (.int k b)) (h : InR k (a * b)) : PureRun P st (.binOp .mul tx x y ty) (.int k (a * b)) := by
  refine pr_basic ?_
  have : sameKind k k = true := by cases k <;> rfl
  simp only [pureOp, hx, hy, this, binI, wrap_in h]

theorem pr_div (hx : evS st x = some (.int k a)) (hy : evS st y = some (.int k b)) (h0 : b ≠ 0) : PureRun P st (.binOp .quo tx x y ty) (.int k (k.wrap (a.tdiv b))) := by
  intro n ac w ha d t p af
  simp [execOp, ha.ev hx, ha.ev hy, eqGuard, binOp, Op.intDiv, h0]

theorem pr_div' (hx : evS st x = some (.int k a)) (hy : evS st y = some (.int k b)) (ha : 0 ≤ a) (hb : 1 ≤ b) (h : InR k a) :
    PureRun P st (.binOp .quo tx x y ty) (.int k (a / b)) := by
  have h1 : a.tdiv b = a / b := Int.tdiv_eq_ediv_of_nonneg ha
  have h2 : 0 ≤ a / b := Int.ediv_nonneg ha (by omega)
  have h3 : a / b ≤ a := Int.ediv_le_self b ha
  have h4 : k.wrap (a.tdiv b) = a / b := by
    rw [h1]; refine wrap_in ?_
    cases k <;> simp only [InR] at h ⊢ <;> omega
  have := pr_div (P := P) (tx := tx) (ty := ty) hx hy (by omega)
  rwa [h4] at this

theorem pr_rem (hx : evS st x = some (.int k a)) (hy : evS st y = some (.int k b)) (h0 : b ≠ 0) : PureRun P st (.binOp .rem tx x y ty) (.int k (a.tmod b)) := by
  intro n ac w ha d t p af
  simp [execOp, ha.ev hx, ha.ev hy, eqGuard, binOp, Op.intDiv, h0]

theorem pr_rem' (hx : evS st x = some (.int k a)) (hy : evS st y = some (.int k b)) (ha : 0 ≤ a) (hb : 1 ≤ b) :
    PureRun P st (.binOp .rem tx x y ty) (.int k (a % b)) := by
  have := pr_rem (P := P) (tx := tx) (ty := ty) hx hy (by omega)
  rwa [Int.tmod_eq_emod_of_nonneg ha] at this

theorem pr_shl {k' : IntKind} {m : Nat} (hx : evS st x = some (.int k a)) (hy : evS st y = some (.int k' b)) (hb : b = (m : Int)) (hm : m ≤ k.bits) :
    PureRun P st (.binOp .shl tx x y ty) (.int k (k.wrap (a * 2 ^ m))) := by
  intro n ac w ha d t p af
  subst hb
  have : ¬ (m : Int) < 0 := by omega
  simp [execOp, ha.ev hx, ha.ev hy, eqGuard, binOp, Op.shift, this, Nat.min_eq_left hm]

theorem pr_shr {k' : IntKind} {m : Nat} (hx : evS st x = some (.int k a)) (hy : evS st y = some (.int k' b)) (hb : b = (m : Int)) (hm : m ≤ k.bits) :
    PureRun P st (.binOp .shr tx x y ty) (.int k (a.fdiv (2 ^ m))) := by
  intro n ac w ha d t p af
  subst hb
  have : ¬ (m : Int) < 0 := by omega
  simp [execOp, ha.ev hx, ha.ev hy, eqGuard, binOp, Op.shift, this, Nat.min_eq_left hm]

theorem pr_lss_t (hx : evS st x = some (.int k a)) (hy : evS st y = some (.int k b)) (h : a < b) : PureRun P st (.binOp .lss tx x y ty) (.bool true) := by
  refine pr_basic ?_
  have : sameKind k k = true := by cases k <;> rfl
  simp only [pureOp, hx, hy, this, binI]
  simp; omega

theorem pr_lss_f (hx : evS st x = some (.int k a)) (hy : evS st y = some (.int k b)) (h : b ≤ a) : PureRun P st (.binOp .lss tx x y ty) (.bool false) := by
  refine pr_basic ?_
  have : sameKind k k = true := by cases k <;> rfl
  simp only [pureOp, hx, hy, this, binI]
  simp; omega

theorem pr_leq_t (hx : evS st x = some (.int k a)) (hy : evS st y = some (.int k b)) (h : a ≤ b) : PureRun P st (.binOp .leq tx x y ty) (.bool true) := by
  refine pr_basic ?_
  have : sameKind k k = true := by cases k <;> rfl
  simp only [pureOp, hx, hy, this, binI]
  simp; omega

theorem pr_leq_f (hx : evS st x = some (.int k a)) (hy : evS st y = some (.int k b)) (h : b < a) : PureRun P st (.binOp .leq tx x y ty) (.bool false) := by
  refine pr_basic ?_
  have : sameKind k k = true := by cases k <;> rfl
  simp only [pureOp, hx, hy, this, binI]
  simp; omega

theorem pr_gtr_t (hx : evS st x = some (.int k a)) (hy : evS st y = some (.int k b)) (h : b < a) : PureRun P st (.binOp .gtr tx x y ty) (.bool true) := by
  refine pr_basic ?_
  have : sameKind k k = true := by cases k <;> rfl
  simp only [pureOp, hx, hy, this, binI]
  simp; omega

theorem pr_gtr_f (hx : evS st x = some (.int k a)) (hy : evS st y = some (.int k b)) (h : a ≤ b) : PureRun P st (.binOp .gtr tx x y ty) (.bool false) := by
  refine pr_basic ?_
  have : sameKind k k = true := by cases k <;> rfl
  simp only [pureOp, hx, hy, this, binI]
  simp; omega

theorem pr_geq_t (hx : evS st x = some (.int k a)) (hy : evS st y = some (.int k b)) (h : b ≤ a) : PureRun P st (.binOp .geq tx x y ty) (.bool true) := by
  refine pr_basic ?_
  have : sameKind k k = true := by cases k <;> rfl
  simp only [pureOp, hx, hy, this, binI]
  simp; omega

theorem pr_geq_f (hx : evS st x = some (.int k a)) (hy : evS st y = some (.int k b)) (h : a < b) : PureRun P st (.binOp .geq tx x y ty) (.bool false) := by
  refine pr_basic ?_
  have : sameKind k k = true := by cases k <;> rfl
  simp only [pureOp, hx, hy, this, binI]
  simp; omega

theorem pr_eql_t (hx : evS st x = some (.int k a)) (hy : evS st y = some (.int k b)) (h : a = b) : PureRun P st (.binOp .eql tx x y ty) (.bool true) := by
  refine pr_basic ?_
  have : sameKind k k = true := by cases k <;> rfl
  simp only [pureOp, hx, hy, this, binI]
  simp; omega

theorem pr_eql_f (hx : evS st x = some (.int k a)) (hy : evS st y = some (.int k b)) (h : a ≠ b) : PureRun P st (.binOp .eql tx x y ty) (.bool false) := by
  refine pr_basic ?_
  have : sameKind k k = true := by cases k <;> rfl
  simp only [pureOp, hx, hy, this, binI]
  simp; omega

theorem pr_neq_t (hx : evS st x = some (.int k a)) (hy : evS st y = some (.int k b)) (h : a ≠ b) : PureRun P st (.binOp .neq tx x y ty) (.bool true) := by
  refine pr_basic ?_
  have : sameKind k k = true := by cases k <;> rfl
  simp only [pureOp, hx, hy, this, binI]
  simp; omega

theorem pr_neq_f (hx : evS st x = some (.int k a)) (hy : evS st y = some (.int k b)) (h : a = b) : PureRun P st (.binOp .neq tx x y ty) (.bool false) := by
  refine pr_basic ?_
  have : sameKind k k = true := by cases k <;> rfl
  simp only [pureOp, hx, hy, this, binI]
  simp; omega

end pure

/-! ## Types -/

class UTy (P : Program) (t : TypeId) (d : outParam TypeDesc) : Prop where
  u : P.underlying t = some d

/-- A type whose values lie in one cell. -/
class Scalar (P : Program) (t : TypeId) : Prop where
  agg : ∀ w, (isAgg t).run P w = .ok false w
  size : P.cellsOf t = 1

/-- A struct or an array type of so many cells. -/
class Agg (P : Program) (t : TypeId) (m : outParam Nat) : Prop where
  agg : ∀ w, (isAgg t).run P w = .ok true w
  size : P.cellsOf t = m

/-- Size and zero value. -/
class Zero (P : Program) (t : TypeId) (zl : outParam (List Value)) : Prop where
  z : ∃ z : Value, (∀ w, (zeroValue t).run P w = .ok z w) ∧ z.cells = zl.toArray

/-- The type of the elements of a slice: its cells, its bytes. -/
class Elem (P : Program) (t : TypeId) (e : outParam TypeId) (m : outParam Nat) (bytes : outParam Nat) : Prop where
  u : P.underlying t = some (.slice e)
  row : ∃ i, P.info? e = some i ∧ i.size = m ∧ i.bytes = bytes ∧ (∃ z, i.zero = some z ∧ z.cells.size = m)

class FieldOff (P : Program) (t : TypeId) (f : Nat) (off : outParam Nat) : Prop where
  place : ∀ (a : Addr) (w : World), (Instr.fieldAt t (.pointer (some a)) f).run P w = .ok (.pointer (some (a.add off))) w

class Enters (P : Program) (f : FuncId) : Prop where
  enters : ∀ args w, (callFunc f args).run P w = .ok (.enter f args) w

section types
variable {P : Program} {t : TypeId}

theorem scalar_of {d : TypeDesc} (h : P.underlying t = some d) (hd : (match d with | .struct _ | .array _ _ => false | _ => true) = true) (hs : P.cellsOf t = 1) : Scalar P t :=
  ⟨fun w => by (cases d <;> first | (simp [isAgg, underlying, h]; done) | (cases hd)), hs⟩

theorem agg_of {d : TypeDesc} {m : Nat} (h : P.underlying t = some d) (hd : (match d with | .struct _ | .array _ _ => true | _ => false) = true) (hs : P.cellsOf t = m) : Agg P t m :=
  ⟨fun w => by (cases d <;> first | (simp [isAgg, underlying, h]; done) | (cases hd)), hs⟩

theorem field_of {fields : Array Field} {f off m : Nat} (h : P.underlying t = some (.struct fields)) (hf : (fields[f]?).map (fun fd => (fd.offset, P.cellsOf fd.type)) = some (off, m)) (hm : Nat.blt 0 m = true) : FieldOff P t f off :=
  ⟨fun a w => by
    have hm' : m ≠ 0 := by have := Nat.le_of_ble_eq_true hm; omega
    cases hfd : fields[f]? with
    | none => rw [hfd] at hf; cases hf
    | some fd =>
      rw [hfd] at hf
      simp only [Option.map_some, Option.some.injEq, Prod.mk.injEq] at hf
      obtain ⟨h1, hs⟩ := hf
      have hsz : (sizeOf fd.type).run P w = .ok m w := by
        unfold Program.cellsOf at hs
        cases hi : P.info? fd.type with
        | none => rw [hi] at hs; simp at hs; omega
        | some i => rw [hi] at hs; simp at hs; simp [sizeOf, typeInfo, hi, hs]
      simp [Instr.fieldAt, underlying, h, hfd, Instr.sureAddr, fieldPlace, hsz, hm', h1]⟩

theorem enters_of {f : FuncId} {fn : Func} (h : P.funcs[f]? = some fn) (hb : fn.body.isSome = true) (hn : (fn.name == "runtime.NumGoroutine") = false) : Enters P f :=
  ⟨fun args w => by
    have hb' : fn.body.isNone = false := by cases hx : fn.body <;> simp_all
    have hn' : ¬ fn.name = "runtime.NumGoroutine" := by simpa using hn
    simp only [callFunc, program, Sem.run_bind, Sem.run, Result.andThen_ok, h, hb']; simp [hn']⟩

theorem elem_of {e m bytes : Nat} {z : Value} (h : P.underlying t = some (.slice e)) (hr : (P.info? e).map (fun i => (i.zero, i.size, i.bytes)) = some (some z, m, bytes)) (hz : z.cells.size = m) : Elem P t e m bytes :=
  ⟨h, by
    cases hi : P.info? e with
    | none => rw [hi] at hr; cases hr
    | some i =>
      rw [hi] at hr
      simp only [Option.map_some, Option.some.injEq, Prod.mk.injEq] at hr
      exact ⟨i, rfl, hr.2.1, hr.2.2, z, hr.1, hz⟩⟩

theorem run_sizeOf {m : Nat} (hs : P.cellsOf t = m) (hm : m ≠ 0) (w : World) : (sizeOf t).run P w = .ok m w := by
  unfold Program.cellsOf at hs
  cases hi : P.info? t with
  | none => rw [hi] at hs; simp at hs; omega
  | some i => rw [hi] at hs; simp at hs; simp [sizeOf, typeInfo, hi, hs]

end types

/-! ## Memory -/

/-- Block 'b' holds the cells 'C' and may be written. -/
structure At (w : World) (b : Nat) (C : List Value) (T : TypeId) : Prop where
  h : w.heap[b]? = some (.cells C.toArray T (0, 0))

/-- From here on 'w'' is 'w', but for new blocks and for the blocks of 'S'. -/
structure Fr (S : Nat → Prop) (w w' : World) : Prop where
  os : w'.os = w.os
  tape : w'.tape = w.tape
  output : w'.output = w.output
  size : w.heap.size ≤ w'.heap.size
  block : ∀ b, b < w.heap.size → ¬ S b → w'.heap[b]? = w.heap[b]?

abbrev Ext (w w' : World) : Prop := Fr (fun _ => False) w w'

section mem
variable {w w' w'' : World} {b b' i : Nat} {C C' : List Value} {T T' : TypeId} {S S' : Nat → Prop}

theorem At.lt (h : At w b C T) : b < w.heap.size := (Array.getElem?_eq_some_iff.1 h.h).1
theorem At.cell (h : At w b C T) {v : Value} (hc : C[i]? = some v) : w.cell? ⟨b, i, none⟩ = some v := by
  simp [World.cell?, h.h, hc]
theorem At.uniq (h : At w b C T) (h' : At w b C' T') : C = C' ∧ T = T' := by
  have h1 := h.h; have h2 := h'.h; rw [h1] at h2; simp at h2; exact h2
theorem At.new (w : World) (C : List Value) (T : TypeId) : At (w.alloc (.cells C.toArray T)) w.heap.size C T := ⟨heap_alloc_new w _⟩
theorem At.new' {w : World} {b : Nat} (hb : w.heap.size = b) (C : List Value) (T : TypeId) : At (w.alloc (.cells C.toArray T)) b C T := by subst hb; exact At.new w C T
theorem At.alloc (h : At w b C T) (o : Obj) : At (w.alloc o) b C T := by
  exact ⟨(heap_alloc_old w o h.lt).trans h.h⟩
theorem At.setRow (h : At w b C T) (C' : List Value) : At (w.setRow b C'.toArray) b C' T := ⟨setRow_heap w b C.toArray C'.toArray T (0, 0) h.h⟩
theorem At.setRow_ne (h : At w b C T) (hne : b' ≠ b) (cs : Array Value) : At (w.setRow b' cs) b C T := ⟨(setRow_other w b' b cs (Ne.symm hne)).trans h.h⟩
theorem At.setRow_neF {cs : Array Value} (hne : b' ≠ b) (h : At w b C T) : At (w.setRow b' cs) b C T := h.setRow_ne hne cs
theorem At.drewN (h : At w b C T) (m : Nat) : At (w.drewN m) b C T := ⟨h.h⟩
theorem At.fr (h : At w b C T) (f : Fr S w w') (hS : ¬ S b) : At w' b C T := ⟨(f.block b h.lt hS).trans h.h⟩
theorem At.ext (h : At w b C T) (f : Ext w w') : At w' b C T := h.fr f id
theorem At.extF (f : Ext w w') (h : At w b C T) : At w' b C T := h.ext f

theorem Fr.refl (S : Nat → Prop) (w : World) : Fr S w w := ⟨rfl, rfl, rfl, Nat.le_refl _, fun _ _ _ => rfl⟩
theorem Fr.trans (h : Fr S w w') (h' : Fr S w' w'') : Fr S w w'' :=
  ⟨h'.os.trans h.os, h'.tape.trans h.tape, h'.output.trans h.output, Nat.le_trans h.size h'.size, fun b hb hS => (h'.block b (Nat.lt_of_lt_of_le hb h.size) hS).trans (h.block b hb hS)⟩
/-- A later step may touch, besides, what is new. -/
theorem Fr.trans' (h : Fr S w w') (h' : Fr S' w' w'') (hs : ∀ b, b < w.heap.size → S' b → S b) : Fr S w w'' :=
  ⟨h'.os.trans h.os, h'.tape.trans h.tape, h'.output.trans h.output, Nat.le_trans h.size h'.size, fun b hb hS => (h'.block b (Nat.lt_of_lt_of_le hb h.size) (fun e => hS (hs b hb e))).trans (h.block b hb hS)⟩
theorem Fr.mono (h : Fr S w w') (hs : ∀ b, S b → S' b) : Fr S' w w' := ⟨h.os, h.tape, h.output, h.size, fun b hb hS => h.block b hb (fun e => hS (hs b e))⟩
theorem Fr.mono' (h : Fr S w w') (hs : ∀ b, b < w.heap.size → S b → S' b) : Fr S' w w' := ⟨h.os, h.tape, h.output, h.size, fun b hb hS => h.block b hb (fun e => hS (hs b hb e))⟩
theorem Fr.of_ext (h : Ext w w') : Fr S w w' := h.mono fun _ f => f.elim
theorem Fr.transF (f : Ext w' w'') (h : Fr S w w') : Fr S w w'' := h.trans' f fun _ _ e => e.elim
theorem Fr.drewN (h : Fr S w w') (m : Nat) : Fr S w (w'.drewN m) := ⟨h.os, h.tape, h.output, h.size, h.block⟩
theorem Fr.alloc (h : Fr S w w') (o : Obj) : Fr S w (w'.alloc o) :=
  ⟨h.os, h.tape, h.output, by have := h.size; simp; omega, fun b hb hS => by
    rw [← h.block b hb hS]
    have := h.size
    exact heap_alloc_old _ _ (by omega)⟩
theorem Fr.setRow (h : Fr S w w') (cs : Array Value) (hb : S b ∨ w.heap.size ≤ b) : Fr S w (w'.setRow b cs) :=
  ⟨h.os, h.tape, h.output, by have := h.size; simp; omega, fun x hx hS => by
    rw [← h.block x hx hS]
    refine setRow_other _ _ _ _ fun e => ?_
    subst e
    rcases hb with hb | hb
    · exact hS hb
    · omega⟩
theorem Fr.cell (f : Fr S w w') {p : Addr} {v : Value} (h : w.cell? p = some v) (hS : ¬ S p.block) : w'.cell? p = some v := by
  rw [World.cell?_of_block (f.block p.block (World.block_lt_of_cell? w p h) hS)]; exact h
theorem Fr.below (f : Ext w w') : RowKit.Below w.heap.size w w' := ⟨f.os, f.tape, f.output, f.size, fun b hb => f.block b hb id⟩
theorem Fr.of_below (f : RowKit.Below w.heap.size w w') : Ext w w' := ⟨f.os, f.tape, f.output, f.size, fun b hb _ => f.block b hb⟩

end mem

/-! ### Loads -/

def Ld (P : Program) (w : World) (t : TypeId) (p : Addr) (v : Value) : Prop := (loadVar t p).run P w = .ok v w

/-- .. and in every world of a class. -/
def LdD (P : Program) (D : World → Prop) (t : TypeId) (p : Addr) (v : Value) : Prop := ∀ w, D w → Ld P w t p v

section loads
variable {P : Program} {w : World} {t : TypeId} {p : Addr} {v : Value}

theorem ld_cell [hs : Scalar P t] (h : w.cell? p = some v) : Ld P w t p v := by
  unfold Ld
  simp [loadVar, hs.agg, load, Sem.run, h]

theorem ld_at [Scalar P t] {b i : Nat} {C : List Value} {T : TypeId} (ha : At w b C T) (hc : C[i]? = some v) : Ld P w t ⟨b, i, none⟩ v := ld_cell (ha.cell hc)

theorem addr_add (b i j : Nat) : (⟨b, i, none⟩ : Addr).add j = ⟨b, i + j, none⟩ := by unfold Addr.add; split <;> simp_all

theorem ld_cells {m : Nat} [hs : Agg P t m] {l : List Value} (hl : l.length = m) (hm : m ≠ 0) (h : ∀ j u, l[j]? = some u → w.cell? (p.add j) = some u) : Ld P w t p (.agg l.toArray) := by
  unfold Ld
  have h' := run_loadCells_list (P := P) w p l (fun j u hj => h j u hj)
  rw [hl] at h'
  simp [loadVar, hs.agg, run_sizeOf hs.size hm, h']

theorem ld_agg {m : Nat} [Agg P t m] {b i : Nat} {C l : List Value} {T : TypeId} (ha : At w b C T) (hl : l.length = m) (hm : m ≠ 0) (hc : ∀ j u, l[j]? = some u → C[i + j]? = some u) : Ld P w t ⟨b, i, none⟩ (.agg l.toArray) :=
  ld_cells hl hm fun j u hj => by rw [addr_add]; exact ha.cell (hc j u hj)

theorem Ld.run (h : Ld P w t p v) : (loadVar t p).run P w = .ok v w := h

theorem ldD_at [Scalar P t] {S : Nat → Prop} {b i : Nat} {C : List Value} {T : TypeId} (ha : At w b C T) (hS : ¬ S b) (hc : C[i]? = some v) : LdD P (Fr S w) t ⟨b, i, none⟩ v :=
  fun w' f => ld_at (ha.fr f hS) hc

theorem ldD_cell [Scalar P t] {S : Nat → Prop} (h : w.cell? p = some v) (hS : ¬ S p.block) : LdD P (Fr S w) t p v := fun w' f => ld_cell (f.cell h hS)

theorem ldD_agg {S : Nat → Prop} {m : Nat} [Agg P t m] {b i : Nat} {C l : List Value} {T : TypeId} (ha : At w b C T) (hS : ¬ S b) (hl : l.length = m) (hm : m ≠ 0) (hc : ∀ j u, l[j]? = some u → C[i + j]? = some u) : LdD P (Fr S w) t ⟨b, i, none⟩ (.agg l.toArray) :=
  fun w' f => ld_agg (ha.fr f hS) hl hm hc

theorem ldD_cells {S : Nat → Prop} {m : Nat} [Agg P t m] {l : List Value} (hl : l.length = m) (hm : m ≠ 0) (h : ∀ j u, l[j]? = some u → w.cell? (p.add j) = some u) (hS : ¬ S p.block) : LdD P (Fr S w) t p (.agg l.toArray) :=
  fun w' f => ld_cells hl hm fun j u hj => f.cell (h j u hj) (by unfold Addr.add; split <;> exact hS)

end loads

/-! ### Lists of cells, laid open -/

def dropO : List Value → Nat → List Value
  | l, 0 => l
  | [], _ + 1 => []
  | _ :: l, n + 1 => dropO l n

theorem dropO_eq : ∀ (l : List Value) (n : Nat), dropO l n = l.drop n
  | [], 0 => rfl
  | _ :: _, 0 => rfl
  | [], n + 1 => rfl
  | _ :: l, n + 1 => dropO_eq l n

def takeO : List Value → Nat → Option (List Value)
  | _, 0 => some []
  | [], _ + 1 => none
  | x :: l, n + 1 => match takeO l n with
    | some r => some (x :: r)
    | none => none

theorem takeO_eq : ∀ {l : List Value} {n : Nat} {r : List Value}, takeO l n = some r → l.take n = r
  | l, 0, r, h => by simp only [takeO, Option.some.injEq] at h; subst h; simp
  | [], n + 1, r, h => by cases h
  | x :: l, n + 1, r, h => by
    simp only [takeO] at h
    split at h
    · rename_i r' hr
      simp only [Option.some.injEq] at h; subst h
      rw [List.take_succ_cons, takeO_eq hr]
    · cases h

theorem takeO_len : ∀ {l : List Value} {n : Nat} {r : List Value}, takeO l n = some r → r.length = n
  | l, 0, r, h => by simp only [takeO, Option.some.injEq] at h; subst h; rfl
  | [], n + 1, r, h => by cases h
  | x :: l, n + 1, r, h => by
    simp only [takeO] at h
    split at h
    · rename_i r' hr
      simp only [Option.some.injEq] at h; subst h
      simp [takeO_len hr]
    · cases h

def allOne : List Value → Bool
  | [] => true
  | v :: l => match v.oneCell' with
    | true => allOne l
    | false => false

theorem allOne_spec : ∀ {l : List Value}, allOne l = true → ∀ v ∈ l, v.oneCell' = true
  | [], _, v, hv => by cases hv
  | x :: l, h, v, hv => by
    simp only [allOne] at h
    split at h
    · rename_i h1
      rcases List.mem_cons.1 hv with rfl | hv
      · exact h1
      · exact allOne_spec h v hv
    · cases h

def splice (C : List Value) (i : Nat) (l : List Value) : List Value := C.take i ++ l ++ C.drop (i + l.length)

theorem splice_all {C l : List Value} (h : C.length = l.length) : splice C 0 l = l := by
  unfold splice
  rw [List.take_zero, List.nil_append, Nat.zero_add, List.drop_eq_nil_of_le (by omega), List.append_nil]

/-- 'splice', laid open. -/
def spliceO : List Value → Nat → List Value → Option (List Value)
  | C, 0, [] => some C
  | _ :: C, 0, v :: l => match spliceO C 0 l with
    | some r => some (v :: r)
    | none => none
  | [], 0, _ :: _ => none
  | c :: C, i + 1, l => match spliceO C i l with
    | some r => some (c :: r)
    | none => none
  | [], _ + 1, _ => none

theorem spliceO_eq : ∀ {C : List Value} {i : Nat} {l r : List Value}, spliceO C i l = some r → splice C i l = r ∧ i + l.length ≤ C.length
  | [], 0, [], r, h => by simp only [spliceO, Option.some.injEq] at h; subst h; simp [splice]
  | c :: C, 0, [], r, h => by simp only [spliceO, Option.some.injEq] at h; subst h; simp [splice]
  | c :: C, 0, v :: l, r, h => by
    simp only [spliceO] at h
    split at h
    · rename_i r' hr
      simp only [Option.some.injEq] at h; subst h
      obtain ⟨e1, e2⟩ := spliceO_eq hr
      refine ⟨?_, by simp at e2 ⊢; omega⟩
      rw [← e1]
      simp [splice, Nat.add_comm]
    · cases h
  | [], 0, _ :: _, r, h => by simp [spliceO] at h
  | c :: C, i + 1, l, r, h => by
    simp only [spliceO] at h
    split at h
    · rename_i r' hr
      simp only [Option.some.injEq] at h; subst h
      obtain ⟨e1, e2⟩ := spliceO_eq hr
      refine ⟨?_, by simp at e2 ⊢; omega⟩
      rw [← e1]
      simp [splice, Nat.add_right_comm i 1]
    · cases h
  | [], i + 1, l, r, h => by cases l <;> simp [spliceO] at h

/-! ### Stores -/

section stores
variable {P : Program} {w : World} {t : TypeId} {b i : Nat} {C l : List Value} {T : TypeId} {v : Value}

theorem st_at [hs : Scalar P t] (h : At w b C T) (hi : i < C.length) (h1 : v.oneCell' = true) : (storeVar t ⟨b, i, none⟩ v).run P w = .ok () (w.setRow b (C.set i v).toArray) := by
  have hv : v.cells = #[v] := by cases v <;> first | rfl | cases h1
  have hc : C[i]? = some C[i] := by simp [hi]
  have hcell := h.cell hc
  have hf : w.frozen? ⟨b, i, none⟩ = false := by simp [World.frozen?, h.h]
  have e := setCell_eq_setRow w b i C.toArray T (0, 0) v h.h
  have hst : (store (⟨b, i, none⟩ : Addr) v).run P w = .ok () (w.setRow b (C.set i v).toArray) := by
    rw [run_store P w _ v _ h1, hcell]
    simp [hf, e]
  have h0 : (⟨b, i, none⟩ : Addr).add 0 = ⟨b, i, none⟩ := rfl
  simp [storeVar, hv, run_sizeOf hs.size, storeCells, h0, hst]

theorem st_agg {m : Nat} [hs : Agg P t m] (h : At w b C T) (hl : l.length = m) (hm : m ≠ 0) (hi : i + l.length ≤ C.length) (h1 : ∀ v ∈ l, v.oneCell' = true) :
    (storeVar t ⟨b, i, none⟩ (.agg l.toArray)).run P w = .ok () (w.setRow b (splice C i l).toArray) := by
  have e := run_storeCells_at P b i T l 0 C.toArray w h.h (by simpa using hi) h1
  simp only [Nat.add_zero] at e
  simp [storeVar, Value.cells, hl, run_sizeOf hs.size hm, splice, e]

/-- A part of a block that is laid open. -/
theorem ld_part {m : Nat} [hs : Agg P t m] {r : List Value} (ha : At w b C T) (hr : takeO (dropO C i) m = some r) (hm : Nat.beq m 0 = false) : Ld P w t ⟨b, i, none⟩ (.agg ⟨r⟩) := by
  have h1 := takeO_eq hr
  rw [dropO_eq] at h1
  have hl : r.length = m := takeO_len hr
  refine ld_agg ha hl (Nat.ne_of_beq_eq_false hm) fun j u hj => ?_
  rw [← h1, List.getElem?_take] at hj
  split at hj
  · simpa using hj
  · cases hj

theorem ldD_part {S : Nat → Prop} {m : Nat} [hs : Agg P t m] {r : List Value} (ha : At w b C T) (hS : ¬ S b) (hr : takeO (dropO C i) m = some r) (hm : Nat.beq m 0 = false) : LdD P (Fr S w) t ⟨b, i, none⟩ (.agg ⟨r⟩) :=
  fun w' f => ld_part (P := P) (t := t) (m := m) (ha.fr f hS) hr hm

theorem st_part {m : Nat} [hs : Agg P t m] {C' : List Value} (h : At w b C T) (hl : Nat.beq l.length m = true) (hm : Nat.beq m 0 = false) (h1 : allOne l = true) (hC : spliceO C i l = some C') :
    (storeVar t ⟨b, i, none⟩ (.agg ⟨l⟩)).run P w = .ok () (w.setRow b C'.toArray) := by
  obtain ⟨e1, e2⟩ := spliceO_eq hC
  rw [← e1]
  exact st_agg h (Nat.eq_of_beq_eq_true hl) (Nat.ne_of_beq_eq_false hm) e2 (allOne_spec h1)

end stores

/-! ## Operations on memory, in a walk -/

section walk
variable {P : Program} {n : Nat} {Q : Exit → Act → World → Prop} {k : List It} {st : St} {w : World}
variable {all : Array Oper} {rest : List Oper} {d : Nat} {t to : TypeId} {p : String} {af : Array Edge} {v : Value} {x y : Operand} {pa : Addr}

theorem go_load (hd : Nat.blt d n = true) (hx : evS st x = some (.pointer (some pa))) (hl : Ld P w t pa v)
    (h : Go P n Q (.ops all rest :: k) ((d, v) :: st) w) : Go P n Q (.ops all (⟨some d, .load t x, to, p, af, none⟩ :: rest) :: k) st w := by
  refine go_val hd (fun a ha => ?_) h
  simp only [execOp, ha.ev hx, Instr.loadAt, Instr.sureAddr]
  simp [hl.run]

variable {D : Cls}

theorem gol_load (hd : Nat.blt d n = true) (hx : evS st x = some (.pointer (some pa))) (hl : LdD P D.D t pa v)
    (h : Go P n Q (.lex all D rest :: k) ((d, v) :: st) w) (hw : waitsB all rest D.q = true := by kernel_rfl) : Go P n Q (.lex all D (⟨some d, .load t x, to, p, af, none⟩ :: rest) :: k) st w := by
  refine gol_val rfl hd (fun a ha w' hw' => ?_) h
  simp only [execOp, ha.ev hx, Instr.loadAt, Instr.sureAddr]
  simp [(hl w' (hw' hw)).run]

/-- A load of what the second class keeps. -/
theorem gol_loadE (hd : Nat.blt d n = true) (hx : evS st x = some (.pointer (some pa))) (hl : LdD P D.al2 t pa v)
    (h : Go P n Q (.lex all D rest :: k) ((d, v) :: st) w) : Go P n Q (.lex all D (⟨some d, .load t x, to, p, af, none⟩ :: rest) :: k) st w := by
  refine gol_valE rfl hd (fun a ha w' hw' => ?_) h
  simp only [execOp, ha.ev hx, Instr.loadAt, Instr.sureAddr]
  simp [(hl w' hw').run]

theorem gol_store {w' : World} (hx : evS st x = some (.pointer (some pa))) (hy : evS st y = some v) (hs : (storeVar t pa v).run P w = .ok () w')
    (hD : D.aft rest w') (h : Go P n Q (.lex all D rest :: k) st w') : Go P n Q (.lex all D (⟨none, .store t x y, to, p, af, none⟩ :: rest) :: k) st w := by
  refine gol_unit rfl (fun a ha => ?_) hD h
  simp only [execOp, ha.ev hx, ha.ev hy, Instr.storeAt, Instr.sureAddr]
  simp [hs]

theorem go_store {w' : World} (hx : evS st x = some (.pointer (some pa))) (hy : evS st y = some v) (hs : (storeVar t pa v).run P w = .ok () w')
    (h : Go P n Q (.ops all rest :: k) st w') : Go P n Q (.ops all (⟨none, .store t x y, to, p, af, none⟩ :: rest) :: k) st w := by
  refine go_unit (fun a ha => ?_) h
  simp only [execOp, ha.ev hx, ha.ev hy, Instr.storeAt, Instr.sureAddr]
  simp [hs]

theorem go_alloc {zl : List Value} {nb : Nat} [hz : Zero P t zl] (hd : Nat.blt d n = true) (hb : w.heap.size = nb)
    (h : Go P n Q (.ops all rest :: k) ((d, .pointer (some ⟨nb, 0, none⟩)) :: st) (w.alloc (.cells zl.toArray t))) :
    Go P n Q (.ops all (⟨some d, .alloc t, to, p, af, none⟩ :: rest) :: k) st w := by
  subst hb
  obtain ⟨z, h1, h2⟩ := hz.z
  refine go_val hd (fun a ha => ?_) h
  simp [execOp, Instr.alloc, h1, h2, newVar, newRow, newObj, Sem.run]

theorem go_box {l : List Value} {nb : Nat} (hd : Nat.blt d n = true) (hx : evS st x = some v) (hc : v.cells = l.toArray) (hb : w.heap.size = nb)
    (h : Go P n Q (.ops all rest :: k) ((d, .pointer (some ⟨nb, 0, none⟩)) :: st) (w.alloc (.cells l.toArray t))) :
    Go P n Q (.ops all (⟨some d, .box t x, to, p, af, none⟩ :: rest) :: k) st w := by
  subst hb
  refine go_val hd (fun a ha => ?_) h
  simp [execOp, ha.ev hx, Instr.box, newVar, newRow, newObj, Sem.run, hc]

theorem gol_alloc {zl : List Value} {nb : Nat} [hz : Zero P t zl] (hd : Nat.blt d n = true) (hb : w.heap.size = nb) (hD : D.aft rest (w.alloc (.cells zl.toArray t)))
    (h : Go P n Q (.lex all D rest :: k) ((d, .pointer (some ⟨nb, 0, none⟩)) :: st) (w.alloc (.cells zl.toArray t))) :
    Go P n Q (.lex all D (⟨some d, .alloc t, to, p, af, none⟩ :: rest) :: k) st w := by
  subst hb
  obtain ⟨z, h1, h2⟩ := hz.z
  refine gol_run rfl hd (fun a ha => ?_) hD h
  simp [execOp, Instr.alloc, h1, h2, newVar, newRow, newObj, Sem.run]

theorem gol_box {l : List Value} {nb : Nat} (hd : Nat.blt d n = true) (hx : evS st x = some v) (hc : v.cells = l.toArray) (hb : w.heap.size = nb) (hD : D.aft rest (w.alloc (.cells l.toArray t)))
    (h : Go P n Q (.lex all D rest :: k) ((d, .pointer (some ⟨nb, 0, none⟩)) :: st) (w.alloc (.cells l.toArray t))) :
    Go P n Q (.lex all D (⟨some d, .box t x, to, p, af, none⟩ :: rest) :: k) st w := by
  subst hb
  refine gol_run rfl hd (fun a ha => ?_) hD h
  simp [execOp, ha.ev hx, Instr.box, newVar, newRow, newObj, Sem.run, hc]

/-! ### Addresses -/

theorem pr_field {f off b o : Nat} [hf : FieldOff P t f off] (hx : evS st x = some (.pointer (some ⟨b, o, none⟩))) :
    PureRun P st (.fieldAddr t x f) (.pointer (some ⟨b, o + off, none⟩)) := by
  intro n a w ha d to p af
  simp [execOp, ha.ev hx, hf.place, addr_add]

/-- The address of an element of a slice; the index is the natural number 'j'. -/
theorem pr_index {b o len cap m bytes j : Nat} {e : TypeId} {kd : IntKind} {i : Int} [he : Elem P t e m bytes] (hx : evS st x = some (.slice (some ⟨b, o, none⟩) len cap)) (hy : evS st y = some (.int kd i))
    (hi : i = (j : Int)) (hj : j < len) : PureRun P st (.indexAddr t x y) (.pointer (some ⟨b, o + j * m, none⟩)) := by
  intro n a w ha d to p af
  subst hi
  obtain ⟨i, h1, h2, _⟩ := he.row
  have h3 : (0 : Int) ≤ j ∧ (j : Int) < len := by omega
  simp [execOp, ha.ev hx, ha.ev hy, Instr.indexAt, asIntOf, underlying, he.u, sizeOf, typeInfo, h1, h2, hj, addr_add]

/-- .. where an element lies in one cell. -/
theorem pr_index1 {b o len cap bytes j : Nat} {e : TypeId} {kd : IntKind} {i : Int} [he : Elem P t e 1 bytes] (hx : evS st x = some (.slice (some ⟨b, o, none⟩) len cap)) (hy : evS st y = some (.int kd i))
    (hi : i = (j : Int)) (hj : j < len) : PureRun P st (.indexAddr t x y) (.pointer (some ⟨b, o + j, none⟩)) := by
  have := pr_index (P := P) (t := t) hx hy hi hj
  rwa [Nat.mul_one] at this

/-- The address of an element of an array variable. -/
theorem pr_indexA {b o len m j : Nat} {e : TypeId} {kd : IntKind} {i : Int} [he : UTy P t (.array len e)] (hm : P.cellsOf e = m) (hm0 : m ≠ 0) (hx : evS st x = some (.pointer (some ⟨b, o, none⟩))) (hy : evS st y = some (.int kd i))
    (hi : i = (j : Int)) (hj : j < len) : PureRun P st (.indexAddr t x y) (.pointer (some ⟨b, o + j * m, none⟩)) := by
  intro n a w ha d to p af
  subst hi
  have h3 : (0 : Int) ≤ j ∧ (j : Int) < len := by omega
  simp [execOp, ha.ev hx, ha.ev hy, Instr.indexAt, asIntOf, underlying, he.u, run_sizeOf hm hm0, hj, addr_add, Instr.sureAddr]

theorem run_equalIn_bool {t : TypeId} (d : Nat) (a b : Bool) (w : World) (h : P.underlying t = some .bool) : (Op.equalIn (d + 1) t (.bool a) (.bool b)).run P w = .ok (a == b) w := by
  simp [Op.equalIn, run_underlying h]

theorem run_eql_bool {t : TypeId} (a b : Bool) (w : World) (h : P.underlying t = some .bool) : (binOp .eql t (.bool a) (.bool b)).run P w = .ok (.bool (a == b)) w := by
  simp only [binOp]
  simp [Op.equal, Op.maxDepth, run_equalIn_bool 9999 a b w h]

theorem run_neq_bool {t : TypeId} (a b : Bool) (w : World) (h : P.underlying t = some .bool) : (binOp .neq t (.bool a) (.bool b)).run P w = .ok (.bool (!(a == b))) w := by
  simp only [binOp]
  simp [Op.equal, Op.maxDepth, run_equalIn_bool 9999 a b w h]

theorem pr_eqb {a b : Bool} {ty : TypeId} [ht : UTy P t .bool] (hx : evS st x = some (.bool a)) (hy : evS st y = some (.bool b)) : PureRun P st (.binOp .eql t x y ty) (.bool (a == b)) := by
  intro n ac w ha d to p af
  have hg : (eqGuard .eql t x y (.bool a) (.bool b)).run P w = .ok () w := by unfold eqGuard; simp
  simp only [execOp, ha.ev hx, ha.ev hy, Sem.run_bind, hg, Result.andThen_ok, run_eql_bool a b w ht.u, Sem.run_pure]

theorem pr_neb {a b : Bool} {ty : TypeId} [ht : UTy P t .bool] (hx : evS st x = some (.bool a)) (hy : evS st y = some (.bool b)) : PureRun P st (.binOp .neq t x y ty) (.bool (!(a == b))) := by
  intro n ac w ha d to p af
  have hg : (eqGuard .neq t x y (.bool a) (.bool b)).run P w = .ok () w := by unfold eqGuard; simp
  simp only [execOp, ha.ev hx, ha.ev hy, Sem.run_bind, hg, Result.andThen_ok, run_neq_bool a b w ht.u, Sem.run_pure]

theorem run_equalIn_nil {t e : TypeId} (d : Nat) (pt : Option Addr) (w : World) (h : P.underlying t = some (.pointer e)) : (Op.equalIn (d + 1) t (.pointer pt) (.pointer none)).run P w = .ok pt.isNone w := by
  cases pt <;> simp [Op.equalIn, run_underlying h]

/-- A pointer against nil. -/
theorem pr_eqnil {e : TypeId} {pt : Option Addr} {ty : TypeId} [ht : UTy P t (.pointer e)] (hx : evS st x = some (.pointer pt)) (hy : evS st y = some (.pointer none)) : PureRun P st (.binOp .eql t x y ty) (.bool pt.isNone) := by
  intro n ac w ha d to p af
  have hg : (eqGuard .eql t x y (.pointer pt) (.pointer none)).run P w = .ok () w := by unfold eqGuard; simp
  have hr : (binOp .eql t (.pointer pt) (.pointer none)).run P w = .ok (.bool pt.isNone) w := by
    simp only [binOp]
    simp [Op.equal, Op.maxDepth, run_equalIn_nil 9999 pt w ht.u]
  simp only [execOp, ha.ev hx, ha.ev hy, Sem.run_bind, hg, Result.andThen_ok, hr, Sem.run_pure]

theorem pr_nenil {e : TypeId} {pt : Option Addr} {ty : TypeId} [ht : UTy P t (.pointer e)] (hx : evS st x = some (.pointer pt)) (hy : evS st y = some (.pointer none)) : PureRun P st (.binOp .neq t x y ty) (.bool (!pt.isNone)) := by
  intro n ac w ha d to p af
  have hg : (eqGuard .neq t x y (.pointer pt) (.pointer none)).run P w = .ok () w := by unfold eqGuard; simp
  have hr : (binOp .neq t (.pointer pt) (.pointer none)).run P w = .ok (.bool (!pt.isNone)) w := by
    simp only [binOp]
    simp [Op.equal, Op.maxDepth, run_equalIn_nil 9999 pt w ht.u]
  simp only [execOp, ha.ev hx, ha.ev hy, Sem.run_bind, hg, Result.andThen_ok, hr, Sem.run_pure]

/-- An element of an array that is a value; its elements lie in one cell. -/
theorem pr_indexV {len j : Nat} {e : TypeId} {kd : IntKind} {i : Int} {l : List Value} [ht : UTy P t (.array len e)] [he : Scalar P e] (hx : evS st x = some (.agg l.toArray)) (hy : evS st y = some (.int kd i))
    (hi : i = (j : Int)) (hj : j < len) (hv : l[j]? = some v) : PureRun P st (.index t x y) v := by
  intro n a w ha d to p af
  subst hi
  have h3 : (0 : Int) ≤ j ∧ (j : Int) < len := by omega
  simp [execOp, ha.ev hx, ha.ev hy, Instr.index, asIntOf, underlying, ht.u, run_sizeOf he.size, hj, part, he.agg, hv]

theorem pr_len {len cap m bytes : Nat} {e : TypeId} {sa : Option Addr} [he : Elem P t e m bytes] (hx : evS st x = some (.slice sa len cap)) :
    PureRun P st (.call { callee := .builtin .len, args := #[x], argTypes := #[t] }) (.int .i64 len) := by
  intro n a w ha d to p af
  simp [execOp, resolve, invoke, builtin, Builtin.len_, ha.ev hx, underlying, he.u, goInt]

theorem pr_min {a b : Int} {kd : IntKind} {ts : Array TypeId} (hx : evS st x = some (.int kd a)) (hy : evS st y = some (.int kd b)) :
    PureRun P st (.call { callee := .builtin .min, args := #[x, y], argTypes := ts }) (.int kd (if b < a then b else a)) := by
  intro n ac w ha d to p af
  simp [execOp, resolve, invoke, builtin, Builtin.min_, Builtin.min2, ha.ev hx, ha.ev hy]

theorem pr_max {a b : Int} {kd : IntKind} {ts : Array TypeId} (hx : evS st x = some (.int kd a)) (hy : evS st y = some (.int kd b)) :
    PureRun P st (.call { callee := .builtin .max, args := #[x, y], argTypes := ts }) (.int kd (if b > a then b else a)) := by
  intro n ac w ha d to p af
  simp [execOp, resolve, invoke, builtin, Builtin.max_, Builtin.max2, ha.ev hx, ha.ev hy]

theorem pr_conv {a : Int} {k1 k2 : IntKind} {t1 t2 : TypeId} {d1 : TypeDesc} [h1 : UTy P t1 d1] [h2 : UTy P t2 (.int k2)] (hx : evS st x = some (.int k1 a)) :
    PureRun P st (.convert t1 t2 x) (.int k2 (k2.wrap a)) := by
  intro n ac w ha d to p af
  simp only [execOp, ha.ev hx, convert, underlying, Sem.run_bind]
  simp [h1.u, h2.u, Conv.intToInt]

theorem pr_conv' {a : Int} {k1 k2 : IntKind} {t1 t2 : TypeId} {d1 : TypeDesc} [h1 : UTy P t1 d1] [h2 : UTy P t2 (.int k2)] (hx : evS st x = some (.int k1 a)) (h : InR k2 a) :
    PureRun P st (.convert t1 t2 x) (.int k2 a) := by
  have := pr_conv (P := P) (t1 := t1) (t2 := t2) hx
  rwa [wrap_in h] at this

/-! ### Values of struct and array types -/

/-- The cells of a value, laid open. -/
def cellsO : Value → Option (List Value)
  | .agg cs => match cs with | ⟨l⟩ => some l
  | .tuple _ => none
  | v => match v.oneCell' with
    | true => some [v]
    | false => none

theorem cellsO_spec {v : Value} {l : List Value} (h : cellsO v = some l) : v.cells = l.toArray := by
  unfold cellsO at h
  split at h
  · rename_i cs
    obtain ⟨l'⟩ := cs
    simp only [Option.some.injEq] at h
    subst h; rfl
  · cases h
  · split at h
    · rename_i h1
      simp only [Option.some.injEq] at h; subst h
      cases v <;> first | rfl | cases h1
    · cases h

def appO : List Value → List Value → Option (List Value)
  | [], r => some r
  | x :: xs, r => match appO xs r with
    | some l => some (x :: l)
    | none => none

theorem appO_spec : ∀ {xs r l : List Value}, appO xs r = some l → l = xs ++ r
  | [], r, l, h => by simp only [appO, Option.some.injEq] at h; subst h; rfl
  | x :: xs, r, l, h => by
    simp only [appO] at h
    split at h
    · rename_i l' hl
      simp only [Option.some.injEq] at h; subst h
      rw [appO_spec hl]; rfl
    · cases h

def lenEq : List Value → List Value → Bool
  | [], [] => true
  | _ :: a, _ :: b => lenEq a b
  | _, _ => false

theorem lenEq_spec : ∀ {a b : List Value}, lenEq a b = true → a.length = b.length
  | [], [], _ => rfl
  | _ :: a, _ :: b, h => by simp [lenEq_spec (a := a) (b := b) h]
  | [], _ :: _, h => by cases h
  | _ :: _, [], h => by cases h

/-- The cells that a literal makes: its parts in the order of the fields; zero cells elsewhere. -/
def bldO (st : St) : List (List Value) → Nat → List (Nat × Operand) → Option (List Value)
  | [], _, [] => some []
  | [], _, _ :: _ => none
  | z :: zs, i, [] => match bldO st zs (i + 1) [] with
    | some r => appO z r
    | none => none
  | z :: zs, i, (j, x) :: ps => match Nat.beq j i with
    | true => match evS st x with
      | some v => match cellsO v with
        | some cs => match lenEq cs z with
          | true => match bldO st zs (i + 1) ps with
            | some r => appO cs r
            | none => none
          | false => none
        | none => none
      | none => none
    | false => match bldO st zs (i + 1) ((j, x) :: ps) with
      | some r => appO z r
      | none => none

theorem bldO_none {st : St} : ∀ {zs : List (List Value)} {i : Nat} {l : List Value}, bldO st zs i [] = some l → l = zs.flatten
  | [], i, l, h => by simp only [bldO, Option.some.injEq] at h; subst h; rfl
  | z :: zs, i, l, h => by
    simp only [bldO] at h
    split at h
    · rename_i r hr
      rw [appO_spec h, bldO_none hr]; rfl
    · cases h

theorem foldl_set (cs pre old post : List Value) (h : old.length = cs.length) :
    (cs.zipIdx).foldl (fun (a : Array Value) q => a.setIfInBounds (pre.length + q.2) q.1) (pre ++ (old ++ post)).toArray = (pre ++ (cs ++ post)).toArray := by
  have gen : ∀ (p : Nat) (cs : List Value) (m : Nat) (Y old : List Value), Y.length = p + m → old.length = cs.length →
      (cs.zipIdx m).foldl (fun (a : Array Value) q => a.setIfInBounds (p + q.2) q.1) (Y ++ (old ++ post)).toArray = (Y ++ (cs ++ post)).toArray := by
    intro p cs
    induction cs with
    | nil =>
      intro m Y old _ h
      have : old = [] := List.eq_nil_of_length_eq_zero (by simpa using h)
      subst this; rfl
    | cons c cs ih =>
      intro m Y old hY h
      cases old with
      | nil => simp at h
      | cons o old =>
        simp only [List.zipIdx_cons, List.foldl_cons]
        have hs : (Y ++ (o :: old ++ post)).toArray.setIfInBounds (p + m) c = ((Y ++ [c]) ++ (old ++ post)).toArray := by
          rw [← hY]; simp
        rw [hs, ih (m + 1) (Y ++ [c]) old (by simp [hY]; omega) (by simpa using h)]
        simp
  exact gen pre.length cs 0 pre old rfl h

theorem fill_bld {st : St} {a : Act} {n0 : Nat} (ha : Sat n0 st a) {place : Nat → Option (Nat × Nat)} : ∀ {zs : List (List Value)} {i : Nat} {ps : List (Nat × Operand)} {l : List Value} {pre : List Value}, bldO st zs i ps = some l →
    (∀ j z, zs[j]? = some z → place (i + j) = some (pre.length + (zs.take j).flatten.length, z.length)) →
    Instr.fill place (pre ++ zs.flatten).toArray (ps.map fun q => (q.1, a.eval q.2)) = some (pre ++ l).toArray
  | [], i, [], l, pre, h, _ => by simp only [bldO, Option.some.injEq] at h; subst h; simp [Instr.fill]
  | [], i, _ :: _, l, pre, h, _ => by simp [bldO] at h
  | z :: zs, i, [], l, pre, h, _ => by
    rw [bldO_none h]; simp [Instr.fill]
  | z :: zs, i, (j, x) :: ps, l, pre, h, hp => by
    have hp' : ∀ (pre' : List Value), pre'.length = pre.length + z.length → ∀ k z', zs[k]? = some z' → place (i + 1 + k) = some (pre'.length + (zs.take k).flatten.length, z'.length) := by
      intro pre' hl k z' hk
      have := hp (k + 1) z' (by simpa using hk)
      rw [show i + 1 + k = i + (k + 1) by omega, this, hl]
      simp; omega
    simp only [bldO] at h
    split at h
    · rename_i hb
      have : j = i := Nat.eq_of_beq_eq_true hb
      subst this
      split at h
      · rename_i v hv
        split at h
        · rename_i cs hcs
          split at h
          · rename_i hlen
            split at h
            · rename_i r hr
              have hl := lenEq_spec hlen
              rw [appO_spec h]
              have h0 := hp 0 z rfl
              simp only [Nat.add_zero, List.take_zero, List.flatten_nil, List.length_nil] at h0
              simp only [List.map_cons, Instr.fill, ha.ev hv, h0, cellsO_spec hcs, List.size_toArray, List.flatten_cons]
              rw [if_neg (by simp [hl])]
              have hf : (cs.toArray.zipIdx.foldl (fun cs (q : Value × Nat) => cs.setIfInBounds (pre.length + q.2) q.1) (pre ++ (z ++ zs.flatten)).toArray) = (pre ++ (cs ++ zs.flatten)).toArray := by
                have := foldl_set cs pre z zs.flatten hl.symm
                simpa using this
              rw [hf]
              have ih := fill_bld ha (pre := pre ++ cs) hr (hp' (pre ++ cs) (by simp [hl]))
              simpa using ih
            · cases h
          · cases h
        · cases h
      · cases h
    · split at h
      · rename_i r hr
        rw [appO_spec h]
        have ih := fill_bld ha (pre := pre ++ z) hr (hp' (pre ++ z) (by simp))
        simpa using ih
      · cases h

/-- A struct or array type: the zero cells of its fields. -/
class Bld (P : Program) (t : TypeId) (gs : outParam (List (List Value))) : Prop where
  run : ∃ place : Nat → Option (Nat × Nat), (∀ j z, gs[j]? = some z → place j = some ((gs.take j).flatten.length, z.length)) ∧
    ∀ (parts : Array (Nat × Value)) (cells : Array Value) (w : World), Instr.fill place gs.flatten.toArray parts.toList = some cells → (Instr.build t parts).run P w = .ok (.agg cells) w

theorem pr_build {gs : List (List Value)} {ps : List (Nat × Operand)} {l : List Value} [hb : Bld P t gs] (h : bldO st gs 0 ps = some l) : PureRun P st (.build t ps.toArray) (.agg l.toArray) := by
  intro n a w ha d to p af
  obtain ⟨place, h1, h2⟩ := hb.run
  have h3 := fill_bld ha (pre := []) h (fun j z hz => by simpa using h1 j z hz)
  have h4 := h2 (ps.toArray.map fun (i, x) => (i, a.eval x)) l.toArray w (by simpa using h3)
  simp only [execOp, Sem.run_bind, h4, Result.andThen_ok, Sem.run_pure]

def offs : Nat → List (List Value) → List (Nat × Nat)
  | _, [] => []
  | o, z :: zs => (o, z.length) :: offs (o + z.length) zs

theorem offs_get : ∀ (gs : List (List Value)) (o j : Nat) (z : List Value), gs[j]? = some z → (offs o gs)[j]? = some (o + (gs.take j).flatten.length, z.length)
  | [], o, j, z, h => by simp at h
  | g :: gs, o, 0, z, h => by simp at h; subst h; simp [offs]
  | g :: gs, o, j + 1, z, h => by
    have := offs_get gs (o + g.length) j z (by simpa using h)
    simp only [offs, List.getElem?_cons_succ, this, List.take_succ_cons, List.flatten_cons, List.length_append]
    congr 2; omega

theorem run_places {P : Program} (w : World) : ∀ (fs : List Field) (ps : List (Nat × Nat)), fs.map (fun f => (f.offset, P.cellsOf f.type)) = ps → (∀ q ∈ ps, q.2 ≠ 0) →
    (fs.mapM fun f => do pure (f.offset, ← sizeOf f.type) : Sem (List (Nat × Nat))).run P w = .ok ps w
  | [], ps, h, _ => by simp at h; subst h; simp
  | f :: fs, ps, h, h0 => by
    cases ps with
    | nil => simp at h
    | cons q ps =>
      simp only [List.map_cons, List.cons.injEq] at h
      obtain ⟨rfl, h⟩ := h
      have h1 := run_sizeOf (P := P) (t := f.type) rfl (h0 (f.offset, P.cellsOf f.type) (by simp)) w
      have ih := run_places w fs ps h (fun q hq => h0 q (List.mem_cons_of_mem _ hq))
      simp only [List.mapM_cons, Sem.run_bind, h1, Result.andThen_ok, Sem.run_pure]
      rw [ih]; rfl

theorem bld_struct {P : Program} {t : TypeId} {fs : Array Field} {gs : List (List Value)} {z : Value} (h : P.underlying t = some (.struct fs)) (hz : ∀ w, (zeroValue t).run P w = .ok z w) (hc : z.cells = gs.flatten.toArray)
    (hp : fs.toList.map (fun f => (f.offset, P.cellsOf f.type)) = offs 0 gs) (h0 : (offs 0 gs).all (fun q => q.2 != 0) = true) : Bld P t gs := by
  refine ⟨fun j => (offs 0 gs).toArray[j]?, fun j z hz => by simpa using offs_get gs 0 j z hz, fun parts cells w hf => ?_⟩
  have h1 : (fs.mapM fun f => do pure (f.offset, ← sizeOf f.type) : Sem (Array (Nat × Nat))).run P w = .ok (offs 0 gs).toArray w := by
    have := run_places (P := P) w fs.toList _ hp (fun q hq => by have := List.all_eq_true.1 h0 q hq; simpa using this)
    obtain ⟨fs⟩ := fs
    rw [List.mapM_toArray, Sem.run_map, this]; rfl
  simp only [Instr.build, Sem.run_bind, hz, Result.andThen_ok, run_underlying h, h1, hc, hf, Sem.run_pure]

theorem bld_array {P : Program} {t e : TypeId} {len m : Nat} {gs : List (List Value)} {z : Value} (h : P.underlying t = some (.array len e)) (hz : ∀ w, (zeroValue t).run P w = .ok z w) (hc : z.cells = gs.flatten.toArray)
    (hm : P.cellsOf e = m) (hm0 : m ≠ 0) (hg : gs.all (fun g => Nat.beq g.length m) = true) : Bld P t gs := by
  have hgl : ∀ g ∈ gs, g.length = m := fun g hg' => Nat.eq_of_beq_eq_true (List.all_eq_true.1 hg g hg')
  refine ⟨fun i => some (i * m, m), fun j z hz => ?_, fun parts cells w hf => ?_⟩
  · have hj : j < gs.length := (List.getElem?_eq_some_iff.1 hz).1
    have e1 : ∀ (l : List (List Value)), (∀ g ∈ l, g.length = m) → l.flatten.length = l.length * m := by
      intro l
      induction l with
      | nil => simp
      | cons g l ih => intro hl; simp [ih (fun g hg => hl g (by simp [hg])), hl g (by simp), Nat.succ_mul]; omega
    rw [e1 _ (fun g hg => hgl g (List.mem_of_mem_take hg)), List.length_take, Nat.min_eq_left (by omega), hgl z (List.mem_of_getElem? hz)]
  · simp only [Instr.build, Sem.run_bind, hz, Result.andThen_ok, run_underlying h, run_sizeOf hm hm0, hc, hf, Sem.run_pure]

/-! Parts of such values -/

def partO (l : List Value) (off : Nat) : Option Nat → Option Value
  | none => match dropO l off with
    | v :: _ => some v
    | [] => none
  | some m => match takeO (dropO l off) m with
    | some r => some (.agg ⟨r⟩)
    | none => none

/-- What the parts of a type are: one cell, or so many. -/
class PartT (P : Program) (t : TypeId) (s : outParam (Option Nat)) : Prop where
  part : ∀ (l : List Value) (off : Nat) (v : Value) (w : World), partO l off s = some v → (part t l.toArray off).run P w = .ok v w

theorem part_scalar {P : Program} {t : TypeId} (h : Scalar P t) : PartT P t none := ⟨fun l off v w hv => by
  have e : l.toArray[off]? = some v := by
    simp only [partO] at hv
    split at hv
    · rename_i u r hd
      simp only [Option.some.injEq] at hv; subst hv
      rw [dropO_eq] at hd
      have := congrArg (fun l => l[0]?) hd
      simpa using this
    · cases hv
  simp [part, h.agg, e]⟩

theorem part_agg {P : Program} {t : TypeId} {m : Nat} (h : Agg P t m) (hm : Nat.beq m 0 = false) : PartT P t (some m) := ⟨fun l off v w hv => by
  simp only [partO] at hv
  split at hv
  · rename_i r hr
    simp only [Option.some.injEq] at hv; subst hv
    have := takeO_eq hr
    rw [dropO_eq] at this
    have hs := run_sizeOf h.size (Nat.ne_of_beq_eq_false hm) w
    simp [part, h.agg, hs, ← this]
  · cases hv⟩

class FieldV (P : Program) (t : TypeId) (f : Nat) (ft : outParam TypeId) (off : outParam Nat) : Prop where
  run : ∀ (cs : Array Value) (w : World), (Instr.field t (.agg cs) f).run P w = (part ft cs off).run P w

theorem fieldV_of {P : Program} {t : TypeId} {fields : Array Field} {f off : Nat} {ft : TypeId} (h : P.underlying t = some (.struct fields)) (hf : (fields[f]?).map (fun fd => (fd.offset, fd.type)) = some (off, ft)) : FieldV P t f ft off :=
  ⟨fun cs w => by
    cases hfd : fields[f]? with
    | none => rw [hfd] at hf; cases hf
    | some fd =>
      rw [hfd] at hf
      simp only [Option.map_some, Option.some.injEq, Prod.mk.injEq] at hf
      obtain ⟨rfl, rfl⟩ := hf
      simp [Instr.field, run_underlying h, hfd, asAgg]⟩

/-- A field of a struct that is a value. -/
theorem pr_fieldV {f off : Nat} {ft : TypeId} {s : Option Nat} {l : List Value} {v : Value} [hf : FieldV P t f ft off] [hp : PartT P ft s] (hx : evS st x = some (.agg ⟨l⟩)) (hv : partO l off s = some v) :
    PureRun P st (.field t x f) v := by
  intro n a w ha d to p af
  simp [execOp, ha.ev hx, hf.run, hp.part l off v w hv]

/-! Comparing such values -/

/-- By a list of kinds ('true': a number; 'false': a Bool) the cells fit one another. -/
def alikeS : List Bool → List Value → List Value → Bool
  | [], [], [] => true
  | true :: s, .int k _ :: a, .int k' _ :: b => match sameKind k k' with
    | true => alikeS s a b
    | false => false
  | false :: s, .bool _ :: a, .bool _ :: b => alikeS s a b
  | _, _, _ => false

def eqL : List Value → List Value → Bool
  | [], [] => true
  | .int _ a :: r, .int _ b :: s => (a == b) && eqL r s
  | .bool a :: r, .bool b :: s => (a == b) && eqL r s
  | _, _ => false

theorem alikeS_len : ∀ {s : List Bool} {a b : List Value}, alikeS s a b = true → a.length = s.length ∧ b.length = s.length
  | [], [], [], _ => ⟨rfl, rfl⟩
  | true :: s, .int k _ :: a, .int k' _ :: b, h => by
    simp only [alikeS] at h
    split at h
    · have := alikeS_len h; simp [this]
    · cases h
  | false :: s, .bool _ :: a, .bool _ :: b, h => by
    simp only [alikeS] at h
    have := alikeS_len h; simp [this]

theorem alikeS_split : ∀ {s1 s2 : List Bool} {a b : List Value}, alikeS (s1 ++ s2) a b = true → alikeS s1 (a.take s1.length) (b.take s1.length) = true ∧ alikeS s2 (a.drop s1.length) (b.drop s1.length) = true ∧
    eqL a b = (eqL (a.take s1.length) (b.take s1.length) && eqL (a.drop s1.length) (b.drop s1.length))
  | [], s2, a, b, h => by simpa [alikeS, eqL] using h
  | true :: s, s2, .int k x :: a, .int k' y :: b, h => by
    simp only [List.cons_append, alikeS] at h
    split at h
    · rename_i hk
      obtain ⟨h1, h2, h3⟩ := alikeS_split h
      refine ⟨?_, by simpa using h2, ?_⟩
      · simp only [List.length_cons, List.take_succ_cons, alikeS, hk]; exact h1
      · simp only [List.length_cons, List.take_succ_cons, List.drop_succ_cons, eqL, h3, Bool.and_assoc]
    · cases h
  | false :: s, s2, .bool x :: a, .bool y :: b, h => by
    simp only [List.cons_append, alikeS] at h
    obtain ⟨h1, h2, h3⟩ := alikeS_split h
    refine ⟨?_, by simpa using h2, ?_⟩
    · simp only [List.length_cons, List.take_succ_cons, alikeS]; exact h1
    · simp only [List.length_cons, List.take_succ_cons, List.drop_succ_cons, eqL, h3, Bool.and_assoc]

/-- All cells are numbers or Bools: '==' is equality of the cells. 'k': the depth. -/
class EqP (P : Program) (t : TypeId) (sg : outParam (List Bool)) (k : outParam Nat) : Prop where
  run : ∀ (xs ys : List Value) (off d : Nat) (w : World), k ≤ d → alikeS sg ((xs.drop off).take sg.length) ((ys.drop off).take sg.length) = true →
    ∃ a b, (part t xs.toArray off).run P w = .ok a w ∧ (part t ys.toArray off).run P w = .ok b w ∧ (Op.equalIn d t a b).run P w = .ok (eqL ((xs.drop off).take sg.length) ((ys.drop off).take sg.length)) w

theorem alikeS_int {X Y : List Value} (h : alikeS [true] X Y = true) : ∃ k a b, X = [.int k a] ∧ Y = [.int k b] := by
  obtain ⟨h1, h2⟩ := alikeS_len h
  cases X with
  | nil => cases h1
  | cons x X =>
    cases Y with
    | nil => cases h2
    | cons y Y =>
      obtain rfl : X = [] := List.eq_nil_of_length_eq_zero (by simpa using h1)
      obtain rfl : Y = [] := List.eq_nil_of_length_eq_zero (by simpa using h2)
      cases x <;> first | (simp only [alikeS] at h; cases h; done) | skip
      cases y <;> first | (simp only [alikeS] at h; cases h; done) | skip
      rename_i k a k' b
      simp only [alikeS] at h
      split at h
      · rename_i hk
        have := sameKind_eq hk
        subst this
        exact ⟨_, _, _, rfl, rfl⟩
      · cases h

theorem alikeS_bool {X Y : List Value} (h : alikeS [false] X Y = true) : ∃ a b, X = [.bool a] ∧ Y = [.bool b] := by
  obtain ⟨h1, h2⟩ := alikeS_len h
  cases X with
  | nil => cases h1
  | cons x X =>
    cases Y with
    | nil => cases h2
    | cons y Y =>
      obtain rfl : X = [] := List.eq_nil_of_length_eq_zero (by simpa using h1)
      obtain rfl : Y = [] := List.eq_nil_of_length_eq_zero (by simpa using h2)
      cases x <;> first | (simp only [alikeS] at h; cases h; done) | skip
      cases y <;> first | (simp only [alikeS] at h; cases h; done) | skip
      exact ⟨_, _, rfl, rfl⟩

theorem take1 {l : List Value} {off : Nat} {x : Value} (h : (l.drop off).take 1 = [x]) : l.toArray[off]? = some x := by
  have := congrArg (fun l => l[0]?) h
  simpa using this

theorem eqp_int {P : Program} {t : TypeId} {k0 : IntKind} (h : P.underlying t = some (.int k0)) (hs : Scalar P t) : EqP P t [true] 1 := ⟨fun xs ys off d w hd ha => by
  obtain ⟨d, rfl⟩ : ∃ e, d = e + 1 := ⟨d - 1, by omega⟩
  simp only [List.length_cons, List.length_nil, Nat.zero_add] at ha ⊢
  generalize hx : (xs.drop off).take 1 = X at *
  generalize hy : (ys.drop off).take 1 = Y at *
  obtain ⟨k, a, b, rfl, rfl⟩ := alikeS_int ha
  refine ⟨.int k a, .int k b, ?_, ?_, ?_⟩
  · simp [part, hs.agg, take1 hx]
  · simp [part, hs.agg, take1 hy]
  · rw [run_equalIn_int w d t k k0 a b h]
    simp [eqL]⟩

theorem eqp_bool {P : Program} {t : TypeId} (h : P.underlying t = some .bool) (hs : Scalar P t) : EqP P t [false] 1 := ⟨fun xs ys off d w hd ha => by
  obtain ⟨d, rfl⟩ : ∃ e, d = e + 1 := ⟨d - 1, by omega⟩
  simp only [List.length_cons, List.length_nil, Nat.zero_add] at ha ⊢
  generalize hx : (xs.drop off).take 1 = X at *
  generalize hy : (ys.drop off).take 1 = Y at *
  obtain ⟨a, b, rfl, rfl⟩ := alikeS_bool ha
  refine ⟨.bool a, .bool b, ?_, ?_, ?_⟩
  · simp [part, hs.agg, take1 hx]
  · simp [part, hs.agg, take1 hy]
  · rw [run_equalIn_bool d a b w h]
    simp [eqL]⟩

def FlS (P : Program) (k : Nat) : List Field → Nat → List Bool → Prop
  | [], _, sg => sg = []
  | f :: fs, o, sg => f.name ≠ "_" ∧ f.offset = o ∧ ∃ s1 s2 k', EqP P f.type s1 k' ∧ k' ≤ k ∧ sg = s1 ++ s2 ∧ FlS P k fs (o + s1.length) s2

theorem eqFields_run {P : Program} {k : Nat} : ∀ (fs : List Field) (o : Nat) (sg : List Bool) (xs ys : List Value) (d : Nat) (w : World), FlS P k fs o sg → k ≤ d →
    alikeS sg ((xs.drop o).take sg.length) ((ys.drop o).take sg.length) = true → (Op.eqFields d xs.toArray ys.toArray fs).run P w = .ok (eqL ((xs.drop o).take sg.length) ((ys.drop o).take sg.length)) w
  | [], o, sg, xs, ys, d, w, h, _, _ => by
    simp only [FlS] at h
    subst h
    simp [Op.eqFields, eqL]
  | f :: fs, o, sg, xs, ys, d, w, ⟨h1, h2, s1, s2, k', h3, h4, h5, h6⟩, hd, ha => by
    subst h5; subst h2
    obtain ⟨a1, a2, a3⟩ := alikeS_split ha
    have e1 : ∀ l : List Value, ((l.drop f.offset).take (s1 ++ s2).length).take s1.length = (l.drop f.offset).take s1.length := fun l => by
      rw [List.take_take, List.length_append, Nat.min_eq_left (by omega)]
    have e2 : ∀ l : List Value, ((l.drop f.offset).take (s1 ++ s2).length).drop s1.length = (l.drop (f.offset + s1.length)).take s2.length := fun l => by
      rw [List.drop_take, List.drop_drop, List.length_append, Nat.add_sub_cancel_left]
    rw [e1, e1] at a1
    rw [e2, e2] at a2
    rw [a3, e1, e1, e2, e2]
    obtain ⟨a, b, r1, r2, r3⟩ := h3.run xs ys f.offset d w (by omega) a1
    have ih := eqFields_run fs (f.offset + s1.length) s2 xs ys d w h6 hd a2
    simp only [Op.eqFields, h1, ne_eq, not_false_eq_true, if_true, Sem.run_bind, r1, r2, r3, Result.andThen_ok]
    cases eqL ((xs.drop f.offset).take s1.length) ((ys.drop f.offset).take s1.length) with
    | true => simpa using ih
    | false => simp

theorem eqp_struct {P : Program} {t : TypeId} {fs : Array Field} {sg : List Bool} {k m : Nat} (h : P.underlying t = some (.struct fs)) (ha : Agg P t m) (hm : sg.length = m) (h0 : Nat.beq m 0 = false) (hp : P.stoodInHeld t = false) (hf : FlS P k fs.toList 0 sg) : EqP P t sg (k + 1) :=
  ⟨fun xs ys off d w hd hal => by
    obtain ⟨d, rfl⟩ : ∃ e, d = e + 1 := ⟨d - 1, by omega⟩
    subst hm
    have hs := run_sizeOf ha.size (Nat.ne_of_beq_eq_false h0) w
    obtain ⟨l1, l2⟩ := alikeS_len hal
    have hpt : ∀ l : List Value, (part t l.toArray off).run P w = .ok (.agg ((l.drop off).take sg.length).toArray) w := fun l => by
      simp [part, ha.agg, hs]
    refine ⟨_, _, hpt xs, hpt ys, ?_⟩
    have hfo : P.fieldsOf t = fs := by simp [Program.fieldsOf, h]
    rw [run_equalIn_struct w d t _ _ (by rw [hfo]; exact h) hp, hfo]
    have e : ∀ l : List Value, l.length = sg.length → (l.drop 0).take sg.length = l := fun l hl => by rw [List.drop_zero, ← hl, List.take_length]
    have := eqFields_run fs.toList 0 sg ((xs.drop off).take sg.length) ((ys.drop off).take sg.length) d w hf (by omega) (by rw [e _ l1, e _ l2]; exact hal)
    rwa [e _ l1, e _ l2] at this⟩

/-- '==' on structs may be asked. -/
class EqG (P : Program) (t : TypeId) : Prop where
  g : P.eqGuardType P.depth t = false

theorem run_eqP {P : Program} {t : TypeId} {sg : List Bool} {k m : Nat} (h : EqP P t sg k) (ha : Agg P t m) (hm : sg.length = m) (h0 : Nat.beq m 0 = false) (hk : k ≤ 10000) {xs ys : List Value} (hal : alikeS sg xs ys = true) (w : World) :
    (Op.equalIn 10000 t (.agg xs.toArray) (.agg ys.toArray)).run P w = .ok (eqL xs ys) w := by
  subst hm
  obtain ⟨l1, l2⟩ := alikeS_len hal
  have e : ∀ l : List Value, l.length = sg.length → (l.drop 0).take sg.length = l := fun l hl => by rw [List.drop_zero, ← hl, List.take_length]
  obtain ⟨a, b, r1, r2, r3⟩ := h.run xs ys 0 10000 w hk (by rw [e _ l1, e _ l2]; exact hal)
  have hs := run_sizeOf ha.size (Nat.ne_of_beq_eq_false h0) w
  have hpt : ∀ l : List Value, l.length = sg.length → (part t l.toArray 0).run P w = .ok (.agg l.toArray) w := fun l hl => by
    have := e l hl
    simp [part, ha.agg, hs] at this ⊢
    exact this
  rw [hpt xs l1] at r1
  rw [hpt ys l2] at r2
  simp only [Result.ok.injEq, and_true] at r1 r2
  subst r1; subst r2
  rw [r3, e _ l1, e _ l2]

theorem pr_eqs {sg : List Bool} {k m : Nat} {ty : TypeId} {l1 l2 : List Value} [h : EqP P t sg k] [ha : Agg P t m] [hg : EqG P t] (hm : Nat.beq sg.length m = true) (h0 : Nat.beq m 0 = false) (hk : Nat.ble k 10000 = true) (hx : evS st x = some (.agg ⟨l1⟩)) (hy : evS st y = some (.agg ⟨l2⟩)) (hal : alikeS sg l1 l2 = true) :
    PureRun P st (.binOp .eql t x y ty) (.bool (eqL l1 l2)) := by
  intro n ac w hac d to p af
  have hr := run_eqP h ha (Nat.eq_of_beq_eq_true hm) h0 (Nat.le_of_ble_eq_true hk) hal w
  simp only [execOp, hac.ev hx, hac.ev hy, Sem.run_bind, run_eqGuard_agg w _ t x y _ _ hg.g, Result.andThen_ok]
  rw [run_eql_struct]
  have : (Op.equalIn 10000 t (.agg ⟨l1⟩) (.agg ⟨l2⟩)).run P w = .ok (eqL l1 l2) w := hr
  rw [this]; simp

theorem pr_nes {sg : List Bool} {k m : Nat} {ty : TypeId} {l1 l2 : List Value} [h : EqP P t sg k] [ha : Agg P t m] [hg : EqG P t] (hm : Nat.beq sg.length m = true) (h0 : Nat.beq m 0 = false) (hk : Nat.ble k 10000 = true) (hx : evS st x = some (.agg ⟨l1⟩)) (hy : evS st y = some (.agg ⟨l2⟩)) (hal : alikeS sg l1 l2 = true) :
    PureRun P st (.binOp .neq t x y ty) (.bool (!eqL l1 l2)) := by
  intro n ac w hac d to p af
  have hr := run_eqP h ha (Nat.eq_of_beq_eq_true hm) h0 (Nat.le_of_ble_eq_true hk) hal w
  simp only [execOp, hac.ev hx, hac.ev hy, Sem.run_bind, run_eqGuard_agg w _ t x y _ _ hg.g, Result.andThen_ok]
  rw [run_neq_struct]
  have : (Op.equalIn 10000 t (.agg ⟨l1⟩) (.agg ⟨l2⟩)).run P w = .ok (eqL l1 l2) w := hr
  rw [this]; simp

/-! ### Calls -/

theorem go_call {f : FuncId} {xs : List Operand} {vs : List Value} {ts : Array TypeId} {Φ : Value → World → Prop} [hf : Enters P f] (hd : Nat.blt d n = true) (hx : evL st xs = some vs)
    (hc : Calls P f vs.toArray w (Ret Φ)) (h : ∀ v w', Φ v w' → Go P n Q (.ops all rest :: k) ((d, v) :: st) w') :
    Go P n Q (.ops all (⟨some d, .call { callee := .value (.func f), args := xs.toArray, argTypes := ts }, to, p, af, none⟩ :: rest) :: k) st w := by
  intro a ha
  refine wpList_plain rfl fun K' hK => ?_
  unfold Oper.wp
  have hr : (execOp a.eval ⟨some d, .call { callee := .value (.func f), args := xs.toArray, argTypes := ts }, to, p, af, none⟩).run P w = .ok (.enter f vs.toArray) w := by
    simp [execOp, resolve, Act.eval, Deferred.ofValue, invoke, hf.enters, ha.evL hx]
  rw [hr, Oper.upon_enter]
  refine hc.mono ?_
  rintro e w' ⟨v, rfl, hv⟩
  exact hK _ _ (h v w' hv _ (ha.put hd v))

theorem go_call0 {f : FuncId} {xs : List Operand} {vs : List Value} {ts : Array TypeId} {Φ : Value → World → Prop} [hf : Enters P f] (hx : evL st xs = some vs)
    (hc : Calls P f vs.toArray w (Ret Φ)) (h : ∀ v w', Φ v w' → Go P n Q (.ops all rest :: k) st w') :
    Go P n Q (.ops all (⟨none, .call { callee := .value (.func f), args := xs.toArray, argTypes := ts }, to, p, af, none⟩ :: rest) :: k) st w := by
  intro a ha
  refine wpList_plain rfl fun K' hK => ?_
  unfold Oper.wp
  have hr : (execOp a.eval ⟨none, .call { callee := .value (.func f), args := xs.toArray, argTypes := ts }, to, p, af, none⟩).run P w = .ok (.enter f vs.toArray) w := by
    simp [execOp, resolve, Act.eval, Deferred.ofValue, invoke, hf.enters, ha.evL hx]
  rw [hr, Oper.upon_enter]
  refine hc.mono ?_
  rintro e w' ⟨v, rfl, hv⟩
  exact hK _ _ (h v w' hv _ ha)

theorem gol_call {f : FuncId} {xs : List Operand} {vs : List Value} {ts : Array TypeId} {Φ : Value → World → Prop} [hf : Enters P f] (hd : Nat.blt d n = true) (hx : evL st xs = some vs)
    (hc : Calls P f vs.toArray w (Ret Φ)) (h : ∀ v w', Φ v w' → D.aft rest w' ∧ Go P n Q (.lex all D rest :: k) ((d, v) :: st) w') :
    Go P n Q (.lex all D (⟨some d, .call { callee := .value (.func f), args := xs.toArray, argTypes := ts }, to, p, af, none⟩ :: rest) :: k) st w := by
  refine gol_eff rfl hd (fun a ha => ?_) h
  have hr : (execOp a.eval ⟨some d, .call { callee := .value (.func f), args := xs.toArray, argTypes := ts }, to, p, af, none⟩).run P w = .ok (.enter f vs.toArray) w := by
    simp [execOp, resolve, Act.eval, Deferred.ofValue, invoke, hf.enters, ha.evL hx]
  unfold EffAt
  rw [hr]
  exact hc

theorem gol_call0 {f : FuncId} {xs : List Operand} {vs : List Value} {ts : Array TypeId} {Φ : Value → World → Prop} [hf : Enters P f] (hx : evL st xs = some vs)
    (hc : Calls P f vs.toArray w (Ret Φ)) (h : ∀ v w', Φ v w' → D.aft rest w' ∧ Go P n Q (.lex all D rest :: k) st w') :
    Go P n Q (.lex all D (⟨none, .call { callee := .value (.func f), args := xs.toArray, argTypes := ts }, to, p, af, none⟩ :: rest) :: k) st w := by
  refine gol_eff0 rfl (fun a ha => ?_) h
  have hr : (execOp a.eval ⟨none, .call { callee := .value (.func f), args := xs.toArray, argTypes := ts }, to, p, af, none⟩).run P w = .ok (.enter f vs.toArray) w := by
    simp [execOp, resolve, Act.eval, Deferred.ofValue, invoke, hf.enters, ha.evL hx]
  unfold EffAt
  rw [hr]
  exact hc

/-! ### Entering a function and leaving it -/

def argSt : List Value → Nat → St
  | [], _ => []
  | v :: r, i => (i, v) :: argSt r (i + 1)

theorem argSt_look : ∀ (l : List Value) (i j : Nat) (v : Value), look (argSt l i) j = some v → i ≤ j ∧ l[j - i]? = some v
  | [], _, _, _, h => by cases h
  | u :: r, i, j, v, h => by
    simp only [argSt, look] at h
    split at h
    · rename_i hb
      have : i = j := Nat.eq_of_beq_eq_true hb
      subst this
      simp only [Option.some.injEq] at h; subst h
      exact ⟨Nat.le_refl _, by simp⟩
    · obtain ⟨h1, h2⟩ := argSt_look r (i + 1) j v h
      refine ⟨by omega, ?_⟩
      rw [show j - i = (j - (i + 1)) + 1 by omega, List.getElem?_cons_succ]
      exact h2

theorem calls_go {f : FuncId} {fn : Func} {c : Code} {vs : List Value} {R : Ending → World → Prop} (hf : P.funcs[f]? = some fn) (hb : fn.body = some c) (hn : fn.ntmps = n) (hl : vs.length ≤ n)
    (h : Go P n (bodyPost P fn R) [.code c] (argSt vs 0) w) : Calls P f vs.toArray w R := by
  refine calls_of_wp hf hb ?_
  refine h _ ⟨by simp [hn]; omega, rfl, fun j v hj => ?_⟩
  obtain ⟨_, h2⟩ := argSt_look _ _ _ _ hj
  simp only [Nat.sub_zero] at h2
  have h3 : j < vs.length := by
    rcases Nat.lt_or_ge j vs.length with h' | h'
    · exact h'
    · simp [List.getElem?_eq_none h'] at h2
  simp only []
  rw [Array.getElem?_append_left (by simpa using h3)]
  simpa using h2

variable {fn : Func} {R : Ending → World → Prop} {t1 t2 t3 : Nat} {v1 v2 v3 : Value} {y1 y2 : TypeId}

/-- What a function hands back. -/
def ResV (P : Program) (st : St) (w : World) : ResultVar → Value → Prop
  | .tmp t, v => look st t = some v
  | .cell a ty, v => ∃ q, look st a = some (.pointer (some q)) ∧ (loadVar ty q).run P w = .ok v w

def resOf (tmps : Array Value) : ResultVar → Sem Value
  | .tmp t => pure (tmps.getD t undef)
  | .cell x ty => do loadVar ty (← asAddr (tmps.getD x undef))

theorem results_resOf (fn : Func) (tmps : Array Value) : results fn tmps = (do
    let vs ← fn.results.mapM (resOf tmps)
    pure (if h : vs.size = 1 then vs[0] else .tuple vs)) := by
  unfold results
  congr 1

theorem resV_run {a : Act} (ha : Sat n st a) {r : ResultVar} (h : ResV P st w r v) : (resOf a.tmps r).run P w = .ok v w := by
  cases r with
  | tmp t =>
    have h1 := ha.val t v h
    simp [resOf, Array.getD_eq_getD_getElem?, h1]
  | cell x ty =>
    obtain ⟨q, h1, h2⟩ := h
    have h3 := ha.val x _ h1
    simp [resOf, Array.getD_eq_getD_getElem?, h3, asAddr, h2]

theorem go_ret0 (hr : fn.results = #[]) (hR : R (.returned (.tuple #[])) w) : Go P n (bodyPost P fn R) (.code .ret :: k) st w :=
  go_ret fun a ha => ⟨ha.dfr, _, by simp [results, hr], hR⟩

theorem go_end0 (hr : fn.results = #[]) (hR : R (.returned (.tuple #[])) w) : Go P n (bodyPost P fn R) [] st w :=
  fun a ha => ⟨ha.dfr, _, by simp [results, hr], hR⟩

theorem go_ret1 {r : ResultVar} (hr : fn.results = #[r]) (h1 : ResV P st w r v) (hR : R (.returned v) w) : Go P n (bodyPost P fn R) (.code .ret :: k) st w :=
  go_ret fun a ha => ⟨ha.dfr, v, by
    have := resV_run (P := P) ha h1
    simp only [results_resOf, hr]
    simp only [List.mapM_toArray, List.mapM_cons, List.mapM_nil, Sem.run_map, this, Result.andThen_ok, bind_pure_comp, map_pure]
    simp, hR⟩

theorem go_ret2 {r1 r2 : ResultVar} (hr : fn.results = #[r1, r2]) (h1 : ResV P st w r1 v1) (h2 : ResV P st w r2 v2) (hR : R (.returned (.tuple #[v1, v2])) w) : Go P n (bodyPost P fn R) (.code .ret :: k) st w :=
  go_ret fun a ha => ⟨ha.dfr, _, by
    have e1 := resV_run (P := P) ha h1
    have e2 := resV_run (P := P) ha h2
    simp only [results_resOf, hr]
    simp only [List.mapM_toArray, List.mapM_cons, List.mapM_nil, Sem.run_bind, Sem.run_map, e1, e2, Result.andThen_ok, bind_pure_comp, map_pure]
    simp, hR⟩

theorem go_ret3 {r1 r2 r3 : ResultVar} (hr : fn.results = #[r1, r2, r3]) (h1 : ResV P st w r1 v1) (h2 : ResV P st w r2 v2) (h3 : ResV P st w r3 v3) (hR : R (.returned (.tuple #[v1, v2, v3])) w) : Go P n (bodyPost P fn R) (.code .ret :: k) st w :=
  go_ret fun a ha => ⟨ha.dfr, _, by
    have e1 := resV_run (P := P) ha h1
    have e2 := resV_run (P := P) ha h2
    have e3 := resV_run (P := P) ha h3
    simp only [results_resOf, hr]
    simp only [List.mapM_toArray, List.mapM_cons, List.mapM_nil, Sem.run_bind, Sem.run_map, e1, e2, e3, Result.andThen_ok, bind_pure_comp, map_pure]
    simp, hR⟩

end walk

/-! ### Which operation stands next -/

section shapes
variable {P : Program} {n : Nat} {Q : Exit → Act → World → Prop} {k : List It} {st : St} {w : World}
variable {all : Array Oper} {rest : List Oper} {d : Option Tmp} {t ty to t1 t2 : TypeId} {p : String} {af : Array Edge} {x y : Operand} {g : Option (Nat × Bool)} {f : Nat} {ts : Array TypeId} {bi : Builtin} {xs : Array Operand} {c1 c2 : Code} {D : Cls}

theorem is_add (h : Go P n Q (It.ops all (⟨d, .binOp .add t x y ty, to, p, af, none⟩ :: rest) :: k) st w) : Go P n Q (It.ops all (⟨d, .binOp .add t x y ty, to, p, af, none⟩ :: rest) :: k) st w := h
theorem isl_add (h : Go P n Q (It.lex all D (⟨d, .binOp .add t x y ty, to, p, af, none⟩ :: rest) :: k) st w) : Go P n Q (It.lex all D (⟨d, .binOp .add t x y ty, to, p, af, none⟩ :: rest) :: k) st w := h
theorem is_sub (h : Go P n Q (It.ops all (⟨d, .binOp .sub t x y ty, to, p, af, none⟩ :: rest) :: k) st w) : Go P n Q (It.ops all (⟨d, .binOp .sub t x y ty, to, p, af, none⟩ :: rest) :: k) st w := h
theorem isl_sub (h : Go P n Q (It.lex all D (⟨d, .binOp .sub t x y ty, to, p, af, none⟩ :: rest) :: k) st w) : Go P n Q (It.lex all D (⟨d, .binOp .sub t x y ty, to, p, af, none⟩ :: rest) :: k) st w := h
theorem is_mul (h : Go P n Q (It.ops all (⟨d, .binOp .mul t x y ty, to, p, af, none⟩ :: rest) :: k) st w) : Go P n Q (It.ops all (⟨d, .binOp .mul t x y ty, to, p, af, none⟩ :: rest) :: k) st w := h
theorem isl_mul (h : Go P n Q (It.lex all D (⟨d, .binOp .mul t x y ty, to, p, af, none⟩ :: rest) :: k) st w) : Go P n Q (It.lex all D (⟨d, .binOp .mul t x y ty, to, p, af, none⟩ :: rest) :: k) st w := h
theorem is_quo (h : Go P n Q (It.ops all (⟨d, .binOp .quo t x y ty, to, p, af, none⟩ :: rest) :: k) st w) : Go P n Q (It.ops all (⟨d, .binOp .quo t x y ty, to, p, af, none⟩ :: rest) :: k) st w := h
theorem isl_quo (h : Go P n Q (It.lex all D (⟨d, .binOp .quo t x y ty, to, p, af, none⟩ :: rest) :: k) st w) : Go P n Q (It.lex all D (⟨d, .binOp .quo t x y ty, to, p, af, none⟩ :: rest) :: k) st w := h
theorem is_rem (h : Go P n Q (It.ops all (⟨d, .binOp .rem t x y ty, to, p, af, none⟩ :: rest) :: k) st w) : Go P n Q (It.ops all (⟨d, .binOp .rem t x y ty, to, p, af, none⟩ :: rest) :: k) st w := h
theorem isl_rem (h : Go P n Q (It.lex all D (⟨d, .binOp .rem t x y ty, to, p, af, none⟩ :: rest) :: k) st w) : Go P n Q (It.lex all D (⟨d, .binOp .rem t x y ty, to, p, af, none⟩ :: rest) :: k) st w := h
theorem is_shl (h : Go P n Q (It.ops all (⟨d, .binOp .shl t x y ty, to, p, af, none⟩ :: rest) :: k) st w) : Go P n Q (It.ops all (⟨d, .binOp .shl t x y ty, to, p, af, none⟩ :: rest) :: k) st w := h
theorem isl_shl (h : Go P n Q (It.lex all D (⟨d, .binOp .shl t x y ty, to, p, af, none⟩ :: rest) :: k) st w) : Go P n Q (It.lex all D (⟨d, .binOp .shl t x y ty, to, p, af, none⟩ :: rest) :: k) st w := h
theorem is_shr (h : Go P n Q (It.ops all (⟨d, .binOp .shr t x y ty, to, p, af, none⟩ :: rest) :: k) st w) : Go P n Q (It.ops all (⟨d, .binOp .shr t x y ty, to, p, af, none⟩ :: rest) :: k) st w := h
theorem isl_shr (h : Go P n Q (It.lex all D (⟨d, .binOp .shr t x y ty, to, p, af, none⟩ :: rest) :: k) st w) : Go P n Q (It.lex all D (⟨d, .binOp .shr t x y ty, to, p, af, none⟩ :: rest) :: k) st w := h
theorem is_lss (h : Go P n Q (It.ops all (⟨d, .binOp .lss t x y ty, to, p, af, none⟩ :: rest) :: k) st w) : Go P n Q (It.ops all (⟨d, .binOp .lss t x y ty, to, p, af, none⟩ :: rest) :: k) st w := h
theorem isl_lss (h : Go P n Q (It.lex all D (⟨d, .binOp .lss t x y ty, to, p, af, none⟩ :: rest) :: k) st w) : Go P n Q (It.lex all D (⟨d, .binOp .lss t x y ty, to, p, af, none⟩ :: rest) :: k) st w := h
theorem is_leq (h : Go P n Q (It.ops all (⟨d, .binOp .leq t x y ty, to, p, af, none⟩ :: rest) :: k) st w) : Go P n Q (It.ops all (⟨d, .binOp .leq t x y ty, to, p, af, none⟩ :: rest) :: k) st w := h
theorem isl_leq (h : Go P n Q (It.lex all D (⟨d, .binOp .leq t x y ty, to, p, af, none⟩ :: rest) :: k) st w) : Go P n Q (It.lex all D (⟨d, .binOp .leq t x y ty, to, p, af, none⟩ :: rest) :: k) st w := h
theorem is_gtr (h : Go P n Q (It.ops all (⟨d, .binOp .gtr t x y ty, to, p, af, none⟩ :: rest) :: k) st w) : Go P n Q (It.ops all (⟨d, .binOp .gtr t x y ty, to, p, af, none⟩ :: rest) :: k) st w := h
theorem isl_gtr (h : Go P n Q (It.lex all D (⟨d, .binOp .gtr t x y ty, to, p, af, none⟩ :: rest) :: k) st w) : Go P n Q (It.lex all D (⟨d, .binOp .gtr t x y ty, to, p, af, none⟩ :: rest) :: k) st w := h
theorem is_geq (h : Go P n Q (It.ops all (⟨d, .binOp .geq t x y ty, to, p, af, none⟩ :: rest) :: k) st w) : Go P n Q (It.ops all (⟨d, .binOp .geq t x y ty, to, p, af, none⟩ :: rest) :: k) st w := h
theorem isl_geq (h : Go P n Q (It.lex all D (⟨d, .binOp .geq t x y ty, to, p, af, none⟩ :: rest) :: k) st w) : Go P n Q (It.lex all D (⟨d, .binOp .geq t x y ty, to, p, af, none⟩ :: rest) :: k) st w := h
theorem is_eql (h : Go P n Q (It.ops all (⟨d, .binOp .eql t x y ty, to, p, af, none⟩ :: rest) :: k) st w) : Go P n Q (It.ops all (⟨d, .binOp .eql t x y ty, to, p, af, none⟩ :: rest) :: k) st w := h
theorem isl_eql (h : Go P n Q (It.lex all D (⟨d, .binOp .eql t x y ty, to, p, af, none⟩ :: rest) :: k) st w) : Go P n Q (It.lex all D (⟨d, .binOp .eql t x y ty, to, p, af, none⟩ :: rest) :: k) st w := h
theorem is_neq (h : Go P n Q (It.ops all (⟨d, .binOp .neq t x y ty, to, p, af, none⟩ :: rest) :: k) st w) : Go P n Q (It.ops all (⟨d, .binOp .neq t x y ty, to, p, af, none⟩ :: rest) :: k) st w := h
theorem isl_neq (h : Go P n Q (It.lex all D (⟨d, .binOp .neq t x y ty, to, p, af, none⟩ :: rest) :: k) st w) : Go P n Q (It.lex all D (⟨d, .binOp .neq t x y ty, to, p, af, none⟩ :: rest) :: k) st w := h
theorem is_conv (h : Go P n Q (It.ops all (⟨d, .convert t1 t2 x, to, p, af, none⟩ :: rest) :: k) st w) : Go P n Q (It.ops all (⟨d, .convert t1 t2 x, to, p, af, none⟩ :: rest) :: k) st w := h
theorem isl_conv (h : Go P n Q (It.lex all D (⟨d, .convert t1 t2 x, to, p, af, none⟩ :: rest) :: k) st w) : Go P n Q (It.lex all D (⟨d, .convert t1 t2 x, to, p, af, none⟩ :: rest) :: k) st w := h
theorem is_load (h : Go P n Q (It.ops all (⟨d, .load t x, to, p, af, none⟩ :: rest) :: k) st w) : Go P n Q (It.ops all (⟨d, .load t x, to, p, af, none⟩ :: rest) :: k) st w := h
theorem isl_load (h : Go P n Q (It.lex all D (⟨d, .load t x, to, p, af, none⟩ :: rest) :: k) st w) : Go P n Q (It.lex all D (⟨d, .load t x, to, p, af, none⟩ :: rest) :: k) st w := h
theorem is_store (h : Go P n Q (It.ops all (⟨d, .store t x y, to, p, af, none⟩ :: rest) :: k) st w) : Go P n Q (It.ops all (⟨d, .store t x y, to, p, af, none⟩ :: rest) :: k) st w := h
theorem isl_store (h : Go P n Q (It.lex all D (⟨d, .store t x y, to, p, af, none⟩ :: rest) :: k) st w) : Go P n Q (It.lex all D (⟨d, .store t x y, to, p, af, none⟩ :: rest) :: k) st w := h
theorem is_alloc (h : Go P n Q (It.ops all (⟨d, .alloc t, to, p, af, none⟩ :: rest) :: k) st w) : Go P n Q (It.ops all (⟨d, .alloc t, to, p, af, none⟩ :: rest) :: k) st w := h
theorem isl_alloc (h : Go P n Q (It.lex all D (⟨d, .alloc t, to, p, af, none⟩ :: rest) :: k) st w) : Go P n Q (It.lex all D (⟨d, .alloc t, to, p, af, none⟩ :: rest) :: k) st w := h
theorem is_box (h : Go P n Q (It.ops all (⟨d, .box t x, to, p, af, none⟩ :: rest) :: k) st w) : Go P n Q (It.ops all (⟨d, .box t x, to, p, af, none⟩ :: rest) :: k) st w := h
theorem isl_box (h : Go P n Q (It.lex all D (⟨d, .box t x, to, p, af, none⟩ :: rest) :: k) st w) : Go P n Q (It.lex all D (⟨d, .box t x, to, p, af, none⟩ :: rest) :: k) st w := h
theorem is_field (h : Go P n Q (It.ops all (⟨d, .fieldAddr t x f, to, p, af, none⟩ :: rest) :: k) st w) : Go P n Q (It.ops all (⟨d, .fieldAddr t x f, to, p, af, none⟩ :: rest) :: k) st w := h
theorem isl_field (h : Go P n Q (It.lex all D (⟨d, .fieldAddr t x f, to, p, af, none⟩ :: rest) :: k) st w) : Go P n Q (It.lex all D (⟨d, .fieldAddr t x f, to, p, af, none⟩ :: rest) :: k) st w := h
theorem is_index (h : Go P n Q (It.ops all (⟨d, .indexAddr t x y, to, p, af, none⟩ :: rest) :: k) st w) : Go P n Q (It.ops all (⟨d, .indexAddr t x y, to, p, af, none⟩ :: rest) :: k) st w := h
theorem isl_index (h : Go P n Q (It.lex all D (⟨d, .indexAddr t x y, to, p, af, none⟩ :: rest) :: k) st w) : Go P n Q (It.lex all D (⟨d, .indexAddr t x y, to, p, af, none⟩ :: rest) :: k) st w := h
theorem is_bi (h : Go P n Q (It.ops all (⟨d, .call { callee := .builtin bi, args := xs, argTypes := ts }, to, p, af, none⟩ :: rest) :: k) st w) : Go P n Q (It.ops all (⟨d, .call { callee := .builtin bi, args := xs, argTypes := ts }, to, p, af, none⟩ :: rest) :: k) st w := h
theorem isl_bi (h : Go P n Q (It.lex all D (⟨d, .call { callee := .builtin bi, args := xs, argTypes := ts }, to, p, af, none⟩ :: rest) :: k) st w) : Go P n Q (It.lex all D (⟨d, .call { callee := .builtin bi, args := xs, argTypes := ts }, to, p, af, none⟩ :: rest) :: k) st w := h
theorem is_xor (h : Go P n Q (It.ops all (⟨d, .binOp .xor t x y ty, to, p, af, none⟩ :: rest) :: k) st w) : Go P n Q (It.ops all (⟨d, .binOp .xor t x y ty, to, p, af, none⟩ :: rest) :: k) st w := h
theorem is_and (h : Go P n Q (It.ops all (⟨d, .binOp .and t x y ty, to, p, af, none⟩ :: rest) :: k) st w) : Go P n Q (It.ops all (⟨d, .binOp .and t x y ty, to, p, af, none⟩ :: rest) :: k) st w := h
theorem is_or (h : Go P n Q (It.ops all (⟨d, .binOp .or t x y ty, to, p, af, none⟩ :: rest) :: k) st w) : Go P n Q (It.ops all (⟨d, .binOp .or t x y ty, to, p, af, none⟩ :: rest) :: k) st w := h
theorem is_not (h : Go P n Q (It.ops all (⟨d, .unOp .xor t x, to, p, af, none⟩ :: rest) :: k) st w) : Go P n Q (It.ops all (⟨d, .unOp .xor t x, to, p, af, none⟩ :: rest) :: k) st w := h
theorem is_cond (h : Go P n Q (It.code (.cond x c1 c2) :: k) st w) : Go P n Q (It.code (.cond x c1 c2) :: k) st w := h

end shapes

/-! ### Which pure operation it is -/

section which
variable {P : Program} {n : Nat} {st st' : St} {t ty t1 t2 to : TypeId} {x y : Operand} {v : Value} {f d : Nat} {c : Call} {k k' : List It} {all : Array Oper} {rest : List Oper} {op : Op} {p : String} {af : Array Edge} {d' : Option Tmp} {g : Nat × Bool} {D : Cls} {c1 c2 : Code}
theorem gp_add (h : PureRun P st (.binOp .add t x y ty) v) : PureRun P st (.binOp .add t x y ty) v := h
theorem gp_sub (h : PureRun P st (.binOp .sub t x y ty) v) : PureRun P st (.binOp .sub t x y ty) v := h
theorem gp_mul (h : PureRun P st (.binOp .mul t x y ty) v) : PureRun P st (.binOp .mul t x y ty) v := h
theorem gp_quo (h : PureRun P st (.binOp .quo t x y ty) v) : PureRun P st (.binOp .quo t x y ty) v := h
theorem gp_rem (h : PureRun P st (.binOp .rem t x y ty) v) : PureRun P st (.binOp .rem t x y ty) v := h
theorem gp_lss (h : PureRun P st (.binOp .lss t x y ty) v) : PureRun P st (.binOp .lss t x y ty) v := h
theorem gp_leq (h : PureRun P st (.binOp .leq t x y ty) v) : PureRun P st (.binOp .leq t x y ty) v := h
theorem gp_gtr (h : PureRun P st (.binOp .gtr t x y ty) v) : PureRun P st (.binOp .gtr t x y ty) v := h
theorem gp_geq (h : PureRun P st (.binOp .geq t x y ty) v) : PureRun P st (.binOp .geq t x y ty) v := h
theorem gp_eql (h : PureRun P st (.binOp .eql t x y ty) v) : PureRun P st (.binOp .eql t x y ty) v := h
theorem gp_neq (h : PureRun P st (.binOp .neq t x y ty) v) : PureRun P st (.binOp .neq t x y ty) v := h
theorem gp_conv (h : PureRun P st (.convert t1 t2 x) v) : PureRun P st (.convert t1 t2 x) v := h
theorem gp_field (h : PureRun P st (.fieldAddr t x f) v) : PureRun P st (.fieldAddr t x f) v := h
theorem gp_build {ps : Array (Nat × Operand)} (h : PureRun P st (.build t ps) v) : PureRun P st (.build t ps) v := h
theorem gp_fieldV (h : PureRun P st (.field t x f) v) : PureRun P st (.field t x f) v := h
theorem gp_indexV (h : PureRun P st (.index t x y) v) : PureRun P st (.index t x y) v := h
theorem gp_index (h : PureRun P st (.indexAddr t x y) v) : PureRun P st (.indexAddr t x y) v := h
theorem gp_call (h : PureRun P st (.call c) v) : PureRun P st (.call c) v := h
end which

/-! ## The walk by itself -/

section auto
variable {P : Program} {n : Nat} {Q : Exit → Act → World → Prop} {k k' : List It} {st st' : St} {w : World}
variable {all : Array Oper} {rest l0 : List Oper} {d j dj : Nat} {d' : Option Tmp} {t ty to t1 t2 : TypeId} {p : String} {af : Array Edge} {v : Value} {op : Op} {x y : Operand} {pa : Addr} {D : Cls} {b want : Bool}

/-- A step that leaves the world alone. -/
def Stp (P : Program) (n : Nat) (k : List It) (st : St) (k' : List It) (st' : St) : Prop := ∀ Q w, Go P n Q k' st' w → Go P n Q k st w

theorem stp_seq {c1 c2 : Code} : Stp P n (.code (.seq c1 c2) :: k) st (.code c1 :: .code c2 :: k) st := fun _ _ h => go_seq h
theorem stp_region {id : Nat} {l : List Oper} : Stp P n (.code (.region id l.toArray false) :: k) st (.ops l.toArray l :: k) st := fun _ _ h => go_region h
theorem stp_nil : Stp P n (.ops all [] :: k) st k st := fun _ _ h => go_nil h
theorem stpl_nil : Stp P n (.lex all D [] :: k) st k st := fun _ _ h => gol_nil h
theorem stp_fin {D : World → Prop} : Stp P n (.sch all D .fin :: k) st k st := fun _ _ h => go_fin h
theorem stp_op {D : World → Prop} {i : Nat} {t : Sch} {o : Oper} (hi : l0[i]? = some o) : Stp P n (.sch l0.toArray D (.op i t) :: k) st (.lex l0.toArray ⟨D, 0, none⟩ [o] :: .sch l0.toArray D t :: k) st := fun _ _ h => go_op hi h
theorem stp_skip : Stp P n (.code .skip :: k) st k st := fun _ _ h => go_skip h
theorem stp_label {l : Nat} : Stp P n (.code (.label l) :: k) st k st := fun _ _ h => go_label h
theorem stp_block {id : Nat} {c : Code} : Stp P n (.code (.block id c) :: k) st (.code c :: .blk id :: k) st := fun _ _ h => go_block h
theorem stp_blk {id : Nat} : Stp P n (.blk id :: k) st k st := fun _ _ h => go_blk h
theorem stp_exit {id : Nat} (hx : exitK id k = some k') : Stp P n (.code (.exit id) :: k) st k' st := fun _ _ h => go_exit hx h
theorem stp_cond_t {c1 c2 : Code} (hc : evS st x = some (.bool b)) (hb : b = true) : Stp P n (.code (.cond x c1 c2) :: k) st (.code c1 :: k) st := fun _ _ h => go_cond_t hc hb h
theorem stp_cond_f {c1 c2 : Code} (hc : evS st x = some (.bool b)) (hb : b = false) : Stp P n (.code (.cond x c1 c2) :: k) st (.code c2 :: k) st := fun _ _ h => go_cond_f hc hb h
theorem stp_p (hd : Nat.blt d n = true) (hp : PureRun P st op v) : Stp P n (.ops all (⟨some d, op, to, p, af, none⟩ :: rest) :: k) st (.ops all rest :: k) ((d, v) :: st) := fun _ _ h => go_p hd hp h
theorem stp_p0 (hp : PureRun P st op v) : Stp P n (.ops all (⟨none, op, to, p, af, none⟩ :: rest) :: k) st (.ops all rest :: k) st := fun _ _ h => go_p0 hp h
theorem stpl_p (hq : quietK op = true) (hd : Nat.blt d n = true) (hp : PureRun P st op v) : Stp P n (.lex all D (⟨some d, op, to, p, af, none⟩ :: rest) :: k) st (.lex all D rest :: k) ((d, v) :: st) := fun _ _ h => gol_p hq hd hp h
theorem stpl_p0 (hq : quietK op = true) (hp : PureRun P st op v) : Stp P n (.lex all D (⟨none, op, to, p, af, none⟩ :: rest) :: k) st (.lex all D rest :: k) st := fun _ _ h => gol_p0 hq hp h
theorem stp_guard_t (ho : nthDst l0 j = some dj) (hy : look st dj = some (.bool want)) :
    Stp P n (.ops l0.toArray (⟨d', op, to, p, af, some (j, want)⟩ :: rest) :: k) st (.ops l0.toArray (⟨d', op, to, p, af, none⟩ :: rest) :: k) st := fun _ _ h => go_guard_t ho hy h
theorem stp_guard_f (ho : nthDst l0 j = some dj) (hy : look st dj = some (.bool (!want))) (hd : Nat.blt d n = true) :
    Stp P n (.ops l0.toArray (⟨some d, op, to, p, af, some (j, want)⟩ :: rest) :: k) st (.ops l0.toArray rest :: k) ((d, undef) :: st) := fun _ _ h => go_guard_f ho hy hd h
theorem stp_guard_f0 (ho : nthDst l0 j = some dj) (hy : look st dj = some (.bool (!want))) :
    Stp P n (.ops l0.toArray (⟨none, op, to, p, af, some (j, want)⟩ :: rest) :: k) st (.ops l0.toArray rest :: k) st := fun _ _ h => go_guard_f0 ho hy h
theorem stpl_guard_t (ho : nthDst l0 j = some dj) (hy : look st dj = some (.bool want)) :
    Stp P n (.lex l0.toArray D (⟨d', op, to, p, af, some (j, want)⟩ :: rest) :: k) st (.lex l0.toArray D (⟨d', op, to, p, af, none⟩ :: rest) :: k) st := fun _ _ h => gol_guard_t ho hy h
theorem stp_guard_x (ho : nthDst l0 j = some dj) (hy : look st dj = some undef) (hd : Nat.blt d n = true) :
    Stp P n (.ops l0.toArray (⟨some d, op, to, p, af, some (j, want)⟩ :: rest) :: k) st (.ops l0.toArray rest :: k) ((d, undef) :: st) := fun _ _ h => go_guard_x ho hy hd h
theorem stp_guard_x0 (ho : nthDst l0 j = some dj) (hy : look st dj = some undef) :
    Stp P n (.ops l0.toArray (⟨none, op, to, p, af, some (j, want)⟩ :: rest) :: k) st (.ops l0.toArray rest :: k) st := fun _ _ h => go_guard_x0 ho hy h
theorem stpl_guard_x (ho : nthDst l0 j = some dj) (hy : look st dj = some undef) (hd : Nat.blt d n = true) (hq : Nat.beq (rest.length + 1) D.q = false) :
    Stp P n (.lex l0.toArray D (⟨some d, op, to, p, af, some (j, want)⟩ :: rest) :: k) st (.lex l0.toArray D rest :: k) ((d, undef) :: st) := fun _ _ h => gol_guard_x ho hy hd h hq
theorem stpl_guard_x0 (ho : nthDst l0 j = some dj) (hy : look st dj = some undef) (hq : Nat.beq (rest.length + 1) D.q = false) :
    Stp P n (.lex l0.toArray D (⟨none, op, to, p, af, some (j, want)⟩ :: rest) :: k) st (.lex l0.toArray D rest :: k) st := fun _ _ h => gol_guard_x0 ho hy h hq
theorem stpl_guard_f (ho : nthDst l0 j = some dj) (hy : look st dj = some (.bool (!want))) (hd : Nat.blt d n = true) (hq : Nat.beq (rest.length + 1) D.q = false) :
    Stp P n (.lex l0.toArray D (⟨some d, op, to, p, af, some (j, want)⟩ :: rest) :: k) st (.lex l0.toArray D rest :: k) ((d, undef) :: st) := fun _ _ h => gol_guard_f ho hy hd h hq
theorem stpl_guard_f0 (ho : nthDst l0 j = some dj) (hy : look st dj = some (.bool (!want))) (hq : Nat.beq (rest.length + 1) D.q = false) :
    Stp P n (.lex l0.toArray D (⟨none, op, to, p, af, some (j, want)⟩ :: rest) :: k) st (.lex l0.toArray D rest :: k) st := fun _ _ h => gol_guard_f0 ho hy h hq

end auto

attribute [irreducible] Go PureRun Ld LdD Stp

section which2
variable {P : Program} {n : Nat} {st st' : St} {to : TypeId} {x : Operand} {d : Nat} {k k' : List It} {all : Array Oper} {rest : List Oper} {op : Op} {p : String} {af : Array Edge} {d' : Option Tmp} {g : Nat × Bool} {D : Cls} {c1 c2 : Code}
theorem gs_ops (h : Stp P n (.ops all (⟨some d, op, to, p, af, none⟩ :: rest) :: k) st k' st') : Stp P n (.ops all (⟨some d, op, to, p, af, none⟩ :: rest) :: k) st k' st' := h
theorem gs_ops0 (h : Stp P n (.ops all (⟨none, op, to, p, af, none⟩ :: rest) :: k) st k' st') : Stp P n (.ops all (⟨none, op, to, p, af, none⟩ :: rest) :: k) st k' st' := h
theorem gs_lex (h : Stp P n (.lex all D (⟨some d, op, to, p, af, none⟩ :: rest) :: k) st k' st') : Stp P n (.lex all D (⟨some d, op, to, p, af, none⟩ :: rest) :: k) st k' st' := h
theorem gs_lex0 (h : Stp P n (.lex all D (⟨none, op, to, p, af, none⟩ :: rest) :: k) st k' st') : Stp P n (.lex all D (⟨none, op, to, p, af, none⟩ :: rest) :: k) st k' st' := h
theorem gs_opsg (h : Stp P n (.ops all (⟨d', op, to, p, af, some g⟩ :: rest) :: k) st k' st') : Stp P n (.ops all (⟨d', op, to, p, af, some g⟩ :: rest) :: k) st k' st' := h
theorem gs_lexg (h : Stp P n (.lex all D (⟨d', op, to, p, af, some g⟩ :: rest) :: k) st k' st') : Stp P n (.lex all D (⟨d', op, to, p, af, some g⟩ :: rest) :: k) st k' st' := h
theorem gs_cond (h : Stp P n (.code (.cond x c1 c2) :: k) st k' st') : Stp P n (.code (.cond x c1 c2) :: k) st k' st' := h
end which2

section auto2
variable {P : Program} {n : Nat} {Q : Exit → Act → World → Prop} {k k' : List It} {st st' : St} {w : World}
variable {all : Array Oper} {rest l0 : List Oper} {d : Nat} {t to : TypeId} {p : String} {af : Array Edge} {v : Value} {x y : Operand} {pa : Addr} {D : Cls}

theorem ldD_of {D : World → Prop} (h : ∀ w, D w → Ld P w t pa v) : LdD P D t pa v := by unfold LdD; exact h

theorem stp_go (h : Go P n Q k' st' w) (hs : Stp P n k st k' st') : Go P n Q k st w := by unfold Stp at hs; exact hs Q w h

/-- One step that leaves the world alone. -/
theorem sp (h : Go P n Q k' st' w) (hs : Stp P n k st k' st' := by
    first
    | exact stp_seq | exact stp_region | exact stp_nil
    | (apply gs_ops; first | exact stp_p rfl (pr_basic0 rfl) | exact stp_p rfl (by (first | exact pr_basic0 rfl | (apply gp_add; first | exact pr_add rfl rfl (by change _ ∧ _; omega) | exact pr_basic rfl) | (apply gp_sub; first | exact pr_sub rfl rfl (by change _ ∧ _; omega) | exact pr_basic rfl) | (apply gp_mul; first | exact pr_mul rfl rfl (by change _ ∧ _; omega) | exact pr_basic rfl) | (apply gp_quo; first | exact pr_div' rfl rfl (by omega) (by omega) (by change _ ∧ _; omega) | exact pr_div rfl rfl (by omega)) | (apply gp_rem; first | exact pr_rem' rfl rfl (by omega) (by omega) | exact pr_rem rfl rfl (by omega)) | (apply gp_lss; first | exact pr_lss_t rfl rfl (by omega) | exact pr_lss_f rfl rfl (by omega) | exact pr_basic rfl) | (apply gp_leq; first | exact pr_leq_t rfl rfl (by omega) | exact pr_leq_f rfl rfl (by omega) | exact pr_basic rfl) | (apply gp_gtr; first | exact pr_gtr_t rfl rfl (by omega) | exact pr_gtr_f rfl rfl (by omega) | exact pr_basic rfl) | (apply gp_geq; first | exact pr_geq_t rfl rfl (by omega) | exact pr_geq_f rfl rfl (by omega) | exact pr_basic rfl) | (apply gp_eql; first | exact pr_eql_t rfl rfl (by omega) | exact pr_eql_f rfl rfl (by omega) | exact pr_basic rfl | exact pr_eqb rfl rfl | exact pr_eqs rfl rfl rfl rfl rfl rfl | exact pr_eqnil rfl rfl) | (apply gp_neq; first | exact pr_neq_t rfl rfl (by omega) | exact pr_neq_f rfl rfl (by omega) | exact pr_basic rfl | exact pr_neb rfl rfl | exact pr_nes rfl rfl rfl rfl rfl rfl | exact pr_nenil rfl rfl) | (apply gp_conv; first | exact pr_conv' rfl (by change _ ∧ _; omega) | exact pr_conv rfl) | (apply gp_field; exact pr_field rfl) | (apply gp_index; first | exact pr_index1 rfl rfl rfl (by omega) | exact pr_index rfl rfl rfl (by omega) | exact pr_index1 (j := 0) rfl rfl rfl (by omega) | exact pr_index1 (j := 1) rfl rfl rfl (by omega) | exact pr_index1 (j := 2) rfl rfl rfl (by omega) | exact pr_index1 (j := 3) rfl rfl rfl (by omega)) | (apply gp_build; exact pr_build rfl) | (apply gp_fieldV; exact pr_fieldV rfl rfl) | (apply gp_indexV; first | exact pr_indexV rfl rfl rfl (by omega) rfl | exact pr_indexV (j := 0) rfl rfl rfl (by omega) rfl | exact pr_indexV (j := 1) rfl rfl rfl (by omega) rfl) | (apply gp_call; first | exact pr_len rfl | exact pr_min rfl rfl | exact pr_max rfl rfl) | exact pr_basicA rfl rfl)))
    | (apply gs_opsg; first | exact stp_guard_t rfl rfl | exact stp_guard_f rfl rfl rfl | exact stp_guard_f0 rfl rfl | exact stp_guard_x rfl rfl rfl | exact stp_guard_x0 rfl rfl)
    | (apply gs_cond; first | exact stp_cond_t rfl (by (first | rfl | assumption | exact decide_eq_true (by assumption) | exact decide_eq_true (by omega) | exact beq_iff_eq.2 (by omega) | exact bne_iff_ne.2 (by omega))) | exact stp_cond_f rfl (by (first | rfl | assumption | exact decide_eq_false (by assumption) | exact decide_eq_false (by omega) | exact beq_eq_false_iff_ne.2 (by omega) | exact bne_eq_false_iff_eq.2 (by omega))))
    | exact stp_block | exact stp_blk | exact stp_skip | exact stp_exit rfl | exact stp_label
    | (apply gs_lex; first | exact stpl_p rfl rfl (pr_basic0 rfl) | exact stpl_p rfl rfl (by (first | exact pr_basic0 rfl | (apply gp_add; first | exact pr_add rfl rfl (by change _ ∧ _; omega) | exact pr_basic rfl) | (apply gp_sub; first | exact pr_sub rfl rfl (by change _ ∧ _; omega) | exact pr_basic rfl) | (apply gp_mul; first | exact pr_mul rfl rfl (by change _ ∧ _; omega) | exact pr_basic rfl) | (apply gp_quo; first | exact pr_div' rfl rfl (by omega) (by omega) (by change _ ∧ _; omega) | exact pr_div rfl rfl (by omega)) | (apply gp_rem; first | exact pr_rem' rfl rfl (by omega) (by omega) | exact pr_rem rfl rfl (by omega)) | (apply gp_lss; first | exact pr_lss_t rfl rfl (by omega) | exact pr_lss_f rfl rfl (by omega) | exact pr_basic rfl) | (apply gp_leq; first | exact pr_leq_t rfl rfl (by omega) | exact pr_leq_f rfl rfl (by omega) | exact pr_basic rfl) | (apply gp_gtr; first | exact pr_gtr_t rfl rfl (by omega) | exact pr_gtr_f rfl rfl (by omega) | exact pr_basic rfl) | (apply gp_geq; first | exact pr_geq_t rfl rfl (by omega) | exact pr_geq_f rfl rfl (by omega) | exact pr_basic rfl) | (apply gp_eql; first | exact pr_eql_t rfl rfl (by omega) | exact pr_eql_f rfl rfl (by omega) | exact pr_basic rfl | exact pr_eqb rfl rfl | exact pr_eqs rfl rfl rfl rfl rfl rfl | exact pr_eqnil rfl rfl) | (apply gp_neq; first | exact pr_neq_t rfl rfl (by omega) | exact pr_neq_f rfl rfl (by omega) | exact pr_basic rfl | exact pr_neb rfl rfl | exact pr_nes rfl rfl rfl rfl rfl rfl | exact pr_nenil rfl rfl) | (apply gp_conv; first | exact pr_conv' rfl (by change _ ∧ _; omega) | exact pr_conv rfl) | (apply gp_field; exact pr_field rfl) | (apply gp_index; first | exact pr_index1 rfl rfl rfl (by omega) | exact pr_index rfl rfl rfl (by omega) | exact pr_index1 (j := 0) rfl rfl rfl (by omega) | exact pr_index1 (j := 1) rfl rfl rfl (by omega) | exact pr_index1 (j := 2) rfl rfl rfl (by omega) | exact pr_index1 (j := 3) rfl rfl rfl (by omega)) | (apply gp_build; exact pr_build rfl) | (apply gp_fieldV; exact pr_fieldV rfl rfl) | (apply gp_indexV; first | exact pr_indexV rfl rfl rfl (by omega) rfl | exact pr_indexV (j := 0) rfl rfl rfl (by omega) rfl | exact pr_indexV (j := 1) rfl rfl rfl (by omega) rfl) | (apply gp_call; first | exact pr_len rfl | exact pr_min rfl rfl | exact pr_max rfl rfl) | exact pr_basicA rfl rfl)))
    | (apply gs_lexg; first | exact stpl_guard_t rfl rfl | exact stpl_guard_f rfl rfl rfl rfl | exact stpl_guard_f0 rfl rfl rfl | exact stpl_guard_x rfl rfl rfl rfl | exact stpl_guard_x0 rfl rfl rfl)
    | exact stpl_nil | exact stp_fin | exact stp_op rfl
    | (apply gs_ops0; exact stp_p0 (by (first | exact pr_basic0 rfl | (apply gp_add; first | exact pr_add rfl rfl (by change _ ∧ _; omega) | exact pr_basic rfl) | (apply gp_sub; first | exact pr_sub rfl rfl (by change _ ∧ _; omega) | exact pr_basic rfl) | (apply gp_mul; first | exact pr_mul rfl rfl (by change _ ∧ _; omega) | exact pr_basic rfl) | (apply gp_quo; first | exact pr_div' rfl rfl (by omega) (by omega) (by change _ ∧ _; omega) | exact pr_div rfl rfl (by omega)) | (apply gp_rem; first | exact pr_rem' rfl rfl (by omega) (by omega) | exact pr_rem rfl rfl (by omega)) | (apply gp_lss; first | exact pr_lss_t rfl rfl (by omega) | exact pr_lss_f rfl rfl (by omega) | exact pr_basic rfl) | (apply gp_leq; first | exact pr_leq_t rfl rfl (by omega) | exact pr_leq_f rfl rfl (by omega) | exact pr_basic rfl) | (apply gp_gtr; first | exact pr_gtr_t rfl rfl (by omega) | exact pr_gtr_f rfl rfl (by omega) | exact pr_basic rfl) | (apply gp_geq; first | exact pr_geq_t rfl rfl (by omega) | exact pr_geq_f rfl rfl (by omega) | exact pr_basic rfl) | (apply gp_eql; first | exact pr_eql_t rfl rfl (by omega) | exact pr_eql_f rfl rfl (by omega) | exact pr_basic rfl | exact pr_eqb rfl rfl | exact pr_eqs rfl rfl rfl rfl rfl rfl | exact pr_eqnil rfl rfl) | (apply gp_neq; first | exact pr_neq_t rfl rfl (by omega) | exact pr_neq_f rfl rfl (by omega) | exact pr_basic rfl | exact pr_neb rfl rfl | exact pr_nes rfl rfl rfl rfl rfl rfl | exact pr_nenil rfl rfl) | (apply gp_conv; first | exact pr_conv' rfl (by change _ ∧ _; omega) | exact pr_conv rfl) | (apply gp_field; exact pr_field rfl) | (apply gp_index; first | exact pr_index1 rfl rfl rfl (by omega) | exact pr_index rfl rfl rfl (by omega) | exact pr_index1 (j := 0) rfl rfl rfl (by omega) | exact pr_index1 (j := 1) rfl rfl rfl (by omega) | exact pr_index1 (j := 2) rfl rfl rfl (by omega) | exact pr_index1 (j := 3) rfl rfl rfl (by omega)) | (apply gp_build; exact pr_build rfl) | (apply gp_fieldV; exact pr_fieldV rfl rfl) | (apply gp_indexV; first | exact pr_indexV rfl rfl rfl (by omega) rfl | exact pr_indexV (j := 0) rfl rfl rfl (by omega) rfl | exact pr_indexV (j := 1) rfl rfl rfl (by omega) rfl) | (apply gp_call; first | exact pr_len rfl | exact pr_min rfl rfl | exact pr_max rfl rfl) | exact pr_basicA rfl rfl))) | (apply gs_lex0; exact stpl_p0 rfl (by (first | exact pr_basic0 rfl | (apply gp_add; first | exact pr_add rfl rfl (by change _ ∧ _; omega) | exact pr_basic rfl) | (apply gp_sub; first | exact pr_sub rfl rfl (by change _ ∧ _; omega) | exact pr_basic rfl) | (apply gp_mul; first | exact pr_mul rfl rfl (by change _ ∧ _; omega) | exact pr_basic rfl) | (apply gp_quo; first | exact pr_div' rfl rfl (by omega) (by omega) (by change _ ∧ _; omega) | exact pr_div rfl rfl (by omega)) | (apply gp_rem; first | exact pr_rem' rfl rfl (by omega) (by omega) | exact pr_rem rfl rfl (by omega)) | (apply gp_lss; first | exact pr_lss_t rfl rfl (by omega) | exact pr_lss_f rfl rfl (by omega) | exact pr_basic rfl) | (apply gp_leq; first | exact pr_leq_t rfl rfl (by omega) | exact pr_leq_f rfl rfl (by omega) | exact pr_basic rfl) | (apply gp_gtr; first | exact pr_gtr_t rfl rfl (by omega) | exact pr_gtr_f rfl rfl (by omega) | exact pr_basic rfl) | (apply gp_geq; first | exact pr_geq_t rfl rfl (by omega) | exact pr_geq_f rfl rfl (by omega) | exact pr_basic rfl) | (apply gp_eql; first | exact pr_eql_t rfl rfl (by omega) | exact pr_eql_f rfl rfl (by omega) | exact pr_basic rfl | exact pr_eqb rfl rfl | exact pr_eqs rfl rfl rfl rfl rfl rfl | exact pr_eqnil rfl rfl) | (apply gp_neq; first | exact pr_neq_t rfl rfl (by omega) | exact pr_neq_f rfl rfl (by omega) | exact pr_basic rfl | exact pr_neb rfl rfl | exact pr_nes rfl rfl rfl rfl rfl rfl | exact pr_nenil rfl rfl) | (apply gp_conv; first | exact pr_conv' rfl (by change _ ∧ _; omega) | exact pr_conv rfl) | (apply gp_field; exact pr_field rfl) | (apply gp_index; first | exact pr_index1 rfl rfl rfl (by omega) | exact pr_index rfl rfl rfl (by omega) | exact pr_index1 (j := 0) rfl rfl rfl (by omega) | exact pr_index1 (j := 1) rfl rfl rfl (by omega) | exact pr_index1 (j := 2) rfl rfl rfl (by omega) | exact pr_index1 (j := 3) rfl rfl rfl (by omega)) | (apply gp_build; exact pr_build rfl) | (apply gp_fieldV; exact pr_fieldV rfl rfl) | (apply gp_indexV; first | exact pr_indexV rfl rfl rfl (by omega) rfl | exact pr_indexV (j := 0) rfl rfl rfl (by omega) rfl | exact pr_indexV (j := 1) rfl rfl rfl (by omega) rfl) | (apply gp_call; first | exact pr_len rfl | exact pr_min rfl rfl | exact pr_max rfl rfl) | exact pr_basicA rfl rfl)))) : Go P n Q k st w := stp_go h hs

/-- A load whose place the context knows. -/
theorem ld (h : Go P n Q (.ops all rest :: k) ((d, v) :: st) w) (hd : Nat.blt d n = true := by rfl) (hx : evS st x = some (.pointer (some pa)) := by rfl)
    (hl : Ld P w t pa v := by (first | exact ld_at (by (repeat (first | assumption | (refine At.new' (by (first | omega | (simp; done) | (simp; omega))) _ _) | apply At.alloc | apply At.drewN | apply At.setRow | (apply At.setRow_neF; first | assumption | (apply Ne.symm; assumption) | omega) | (apply At.extF; assumption)))) (by rfl) | exact ld_at (by (repeat (first | assumption | (refine At.new' (by (first | omega | (simp; done) | (simp; omega))) _ _) | apply At.alloc | apply At.drewN | apply At.setRow | (apply At.setRow_neF; first | assumption | (apply Ne.symm; assumption) | omega) | (apply At.extF; assumption)))) (by assumption) | assumption | exact ld_cell (by assumption) | exact ld_part (by (repeat (first | assumption | (refine At.new' (by (first | omega | (simp; done) | (simp; omega))) _ _) | apply At.alloc | apply At.drewN | apply At.setRow | (apply At.setRow_neF; first | assumption | (apply Ne.symm; assumption) | omega) | (apply At.extF; assumption)))) rfl rfl)) : Go P n Q (.ops all (⟨some d, .load t x, to, p, af, none⟩ :: rest) :: k) st w := go_load hd hx hl h

theorem ldl (h : Go P n Q (.lex all D rest :: k) ((d, v) :: st) w) (hd : Nat.blt d n = true := by rfl) (hx : evS st x = some (.pointer (some pa)) := by rfl)
    (hl : LdD P D.D t pa v := by (first | exact ldD_at (by (repeat (first | assumption | (refine At.new' (by (first | omega | (simp; done) | (simp; omega))) _ _) | apply At.alloc | apply At.drewN | apply At.setRow | (apply At.setRow_neF; first | assumption | (apply Ne.symm; assumption) | omega) | (apply At.extF; assumption)))) (by (first | exact id | assumption | omega | (simp; done) | (simp; omega))) (by rfl) | exact ldD_at (by (repeat (first | assumption | (refine At.new' (by (first | omega | (simp; done) | (simp; omega))) _ _) | apply At.alloc | apply At.drewN | apply At.setRow | (apply At.setRow_neF; first | assumption | (apply Ne.symm; assumption) | omega) | (apply At.extF; assumption)))) (by (first | exact id | assumption | omega | (simp; done) | (simp; omega))) (by assumption) | assumption | exact ldD_cell (by assumption) (by (first | exact id | assumption | omega | (simp; done) | (simp; omega))) | exact ldD_of fun _ h => ld_cell h | exact ldD_of fun _ h => ld_cell h.1 | exact ldD_of fun _ h => ld_cell h.2 | exact ldD_part (by (repeat (first | assumption | (refine At.new' (by (first | omega | (simp; done) | (simp; omega))) _ _) | apply At.alloc | apply At.drewN | apply At.setRow | (apply At.setRow_neF; first | assumption | (apply Ne.symm; assumption) | omega) | (apply At.extF; assumption)))) (by (first | exact id | assumption | omega | (simp; done) | (simp; omega))) rfl rfl)) (hw : waitsB all rest D.q = true := by kernel_rfl) : Go P n Q (.lex all D (⟨some d, .load t x, to, p, af, none⟩ :: rest) :: k) st w := gol_load hd hx hl h hw

/-- A store into a block that the context knows. -/
theorem sr {w' : World} (h : Go P n Q (.ops all rest :: k) st w') (hx : evS st x = some (.pointer (some pa)) := by rfl) (hy : evS st y = some v := by rfl)
    (hs : (storeVar t pa v).run P w = .ok () w' := by first | exact st_at (by (repeat (first | assumption | (refine At.new' (by (first | omega | (simp; done) | (simp; omega))) _ _) | apply At.alloc | apply At.drewN | apply At.setRow | (apply At.setRow_neF; first | assumption | (apply Ne.symm; assumption) | omega) | (apply At.extF; assumption)))) (by first | (simp; done) | (simp; omega)) rfl | exact st_part (by (repeat (first | assumption | (refine At.new' (by (first | omega | (simp; done) | (simp; omega))) _ _) | apply At.alloc | apply At.drewN | apply At.setRow | (apply At.setRow_neF; first | assumption | (apply Ne.symm; assumption) | omega) | (apply At.extF; assumption)))) rfl rfl rfl rfl) : Go P n Q (.ops all (⟨none, .store t x y, to, p, af, none⟩ :: rest) :: k) st w := go_store hx hy hs h

theorem srl {w' : World} (h : Go P n Q (.lex all D rest :: k) st w') (hx : evS st x = some (.pointer (some pa)) := by rfl) (hy : evS st y = some v := by rfl)
    (hs : (storeVar t pa v).run P w = .ok () w' := by first | exact st_at (by (repeat (first | assumption | (refine At.new' (by (first | omega | (simp; done) | (simp; omega))) _ _) | apply At.alloc | apply At.drewN | apply At.setRow | (apply At.setRow_neF; first | assumption | (apply Ne.symm; assumption) | omega) | (apply At.extF; assumption)))) (by first | (simp; done) | (simp; omega)) rfl | exact st_part (by (repeat (first | assumption | (refine At.new' (by (first | omega | (simp; done) | (simp; omega))) _ _) | apply At.alloc | apply At.drewN | apply At.setRow | (apply At.setRow_neF; first | assumption | (apply Ne.symm; assumption) | omega) | (apply At.extF; assumption)))) rfl rfl rfl rfl) (hD : D.aft rest w' := by (repeat (first | exact trivial | exact Fr.refl _ _ | assumption | apply Fr.drewN | apply Fr.alloc | (apply Fr.transF; assumption) | (refine Fr.setRow ?_ _ (by first | exact Or.inr (by (first | omega | (simp; done) | (simp; omega))) | (exact Or.inl (by first | assumption | (simp; done)))))))) : Go P n Q (.lex all D (⟨none, .store t x y, to, p, af, none⟩ :: rest) :: k) st w := gol_store hx hy hs hD h

theorem al {zl : List Value} {nb : Nat} [hz : Zero P t zl] (h : Go P n Q (.ops all rest :: k) ((d, .pointer (some ⟨nb, 0, none⟩)) :: st) (w.alloc (.cells zl.toArray t)))
    (hd : Nat.blt d n = true := by rfl) (hb : w.heap.size = nb := by (first | (simp; rfl) | rfl)) : Go P n Q (.ops all (⟨some d, .alloc t, to, p, af, none⟩ :: rest) :: k) st w := go_alloc hd hb h

theorem all' {zl : List Value} {nb : Nat} [hz : Zero P t zl] (h : Go P n Q (.lex all D rest :: k) ((d, .pointer (some ⟨nb, 0, none⟩)) :: st) (w.alloc (.cells zl.toArray t)))
    (hd : Nat.blt d n = true := by rfl) (hb : w.heap.size = nb := by (first | (simp; rfl) | rfl)) (hD : D.aft rest (w.alloc (.cells zl.toArray t)) := by (repeat (first | exact trivial | exact Fr.refl _ _ | assumption | apply Fr.drewN | apply Fr.alloc | (apply Fr.transF; assumption) | (refine Fr.setRow ?_ _ (by first | exact Or.inr (by (first | omega | (simp; done) | (simp; omega))) | (exact Or.inl (by first | assumption | (simp; done)))))))) : Go P n Q (.lex all D (⟨some d, .alloc t, to, p, af, none⟩ :: rest) :: k) st w := gol_alloc hd hb hD h

theorem bx {l : List Value} {nb : Nat} (h : Go P n Q (.ops all rest :: k) ((d, .pointer (some ⟨nb, 0, none⟩)) :: st) (w.alloc (.cells l.toArray t)))
    (hd : Nat.blt d n = true := by rfl) (hx : evS st x = some v := by rfl) (hc : v.cells = l.toArray := by rfl) (hb : w.heap.size = nb := by (first | (simp; rfl) | rfl)) :
    Go P n Q (.ops all (⟨some d, .box t x, to, p, af, none⟩ :: rest) :: k) st w := go_box hd hx hc hb h

theorem bxl {l : List Value} {nb : Nat} (h : Go P n Q (.lex all D rest :: k) ((d, .pointer (some ⟨nb, 0, none⟩)) :: st) (w.alloc (.cells l.toArray t)))
    (hd : Nat.blt d n = true := by rfl) (hx : evS st x = some v := by rfl) (hc : v.cells = l.toArray := by rfl) (hb : w.heap.size = nb := by (first | (simp; rfl) | rfl)) (hD : D.aft rest (w.alloc (.cells l.toArray t)) := by (repeat (first | exact trivial | exact Fr.refl _ _ | assumption | apply Fr.drewN | apply Fr.alloc | (apply Fr.transF; assumption) | (refine Fr.setRow ?_ _ (by first | exact Or.inr (by (first | omega | (simp; done) | (simp; omega))) | (exact Or.inl (by first | assumption | (simp; done)))))))) :
    Go P n Q (.lex all D (⟨some d, .box t x, to, p, af, none⟩ :: rest) :: k) st w := gol_box hd hx hc hb hD h

/-- A region that draws, where nothing that was there before the region is written. -/
theorem dr {id : Nat} {l : List Oper} (hm : P.follows .mixedOrders = true) (h : Go P n Q (.lex l.toArray ⟨Fr (fun _ => False) w, 0, none⟩ l :: k) st (w.drewN 1))
    (hB : Region.lexB .any l.toArray = true := by kernel_rfl) (hE : effB l l 0 = true := by kernel_rfl) : Go P n Q (.code (.region id l.toArray true) :: k) st w :=
  go_draw _ hm hB hE ((Fr.refl _ _).drewN 1) h

end auto2

end Go.Vc

namespace Go.Proofs
open Go.Vc
theorem Try.follows : Try.prog.follows .mixedOrders = true := by kernel_rfl
instance Try.uty2 : UTy Try.prog 2 (.int .i64) := ⟨Try.underlying2⟩
instance Try.sca2 : Scalar Try.prog 2 := scalar_of Try.underlying2 rfl (by kernel_rfl)
instance Try.zero2 : Zero Try.prog 2 [.int .i64 0] := ⟨.int .i64 0, fun _ => by kernel_rfl, rfl⟩
instance Try.uty3 : UTy Try.prog 3 (.int .i64) := ⟨Try.underlying3⟩
instance Try.sca3 : Scalar Try.prog 3 := scalar_of Try.underlying3 rfl (by kernel_rfl)
instance Try.zero3 : Zero Try.prog 3 [.int .i64 0] := ⟨.int .i64 0, fun _ => by kernel_rfl, rfl⟩
instance Try.uty4 : UTy Try.prog 4 .bool := ⟨Try.underlying4⟩
instance Try.sca4 : Scalar Try.prog 4 := scalar_of Try.underlying4 rfl (by kernel_rfl)
instance Try.zero4 : Zero Try.prog 4 [.bool false] := ⟨.bool false, fun _ => by kernel_rfl, rfl⟩
instance Try.uty5 : UTy Try.prog 5 (.int .u8) := ⟨Try.underlying5⟩
instance Try.sca5 : Scalar Try.prog 5 := scalar_of Try.underlying5 rfl (by kernel_rfl)
instance Try.zero5 : Zero Try.prog 5 [.int .u8 0] := ⟨.int .u8 0, fun _ => by kernel_rfl, rfl⟩
instance Try.uty9 : UTy Try.prog 9 .string := ⟨Try.underlying9⟩
instance Try.sca9 : Scalar Try.prog 9 := scalar_of Try.underlying9 rfl (by kernel_rfl)
instance Try.zero9 : Zero Try.prog 9 [.string .empty] := ⟨.string .empty, fun _ => by kernel_rfl, rfl⟩
instance Try.uty12 : UTy Try.prog 12 (.int .u64) := ⟨Try.underlying12⟩
instance Try.sca12 : Scalar Try.prog 12 := scalar_of Try.underlying12 rfl (by kernel_rfl)
instance Try.zero12 : Zero Try.prog 12 [.int .u64 0] := ⟨.int .u64 0, fun _ => by kernel_rfl, rfl⟩
instance Try.uty15 : UTy Try.prog 15 (.pointer 163) := ⟨Try.underlying15⟩
instance Try.sca15 : Scalar Try.prog 15 := scalar_of Try.underlying15 rfl (by kernel_rfl)
instance Try.zero15 : Zero Try.prog 15 [.pointer none] := ⟨.pointer none, fun _ => by kernel_rfl, rfl⟩
instance Try.uty16 : UTy Try.prog 16 (.pointer 166) := ⟨Try.underlying16⟩
instance Try.sca16 : Scalar Try.prog 16 := scalar_of Try.underlying16 rfl (by kernel_rfl)
instance Try.zero16 : Zero Try.prog 16 [.pointer none] := ⟨.pointer none, fun _ => by kernel_rfl, rfl⟩
instance Try.uty17 : UTy Try.prog 17 (.pointer 174) := ⟨Try.underlying17⟩
instance Try.sca17 : Scalar Try.prog 17 := scalar_of Try.underlying17 rfl (by kernel_rfl)
instance Try.zero17 : Zero Try.prog 17 [.pointer none] := ⟨.pointer none, fun _ => by kernel_rfl, rfl⟩
instance Try.uty21 : UTy Try.prog 21 (.int .i32) := ⟨Try.underlying21⟩
instance Try.sca21 : Scalar Try.prog 21 := scalar_of Try.underlying21 rfl (by kernel_rfl)
instance Try.zero21 : Zero Try.prog 21 [.int .i32 0] := ⟨.int .i32 0, fun _ => by kernel_rfl, rfl⟩
instance Try.uty22 : UTy Try.prog 22 (.slice 72) := ⟨Try.underlying22⟩
instance Try.sca22 : Scalar Try.prog 22 := scalar_of Try.underlying22 rfl (by kernel_rfl)
theorem Try.erow22 : (Try.prog.info? 72).map (fun i => (i.zero, i.size, i.bytes)) = some (some (.agg #[.int .i64 0, .int .i64 0]), 2, 16) := by kernel_rfl
instance Try.elem22 : Elem Try.prog 22 72 2 16 := elem_of Try.underlying22 Try.erow22 rfl
instance Try.zero22 : Zero Try.prog 22 [.slice none 0 0] := ⟨.slice none 0 0, fun _ => by kernel_rfl, rfl⟩
instance Try.uty23 : UTy Try.prog 23 (.int .u64) := ⟨Try.underlying23⟩
instance Try.sca23 : Scalar Try.prog 23 := scalar_of Try.underlying23 rfl (by kernel_rfl)
instance Try.zero23 : Zero Try.prog 23 [.int .u64 0] := ⟨.int .u64 0, fun _ => by kernel_rfl, rfl⟩
instance Try.uty25 : UTy Try.prog 25 (.pointer 84) := ⟨Try.underlying25⟩
instance Try.sca25 : Scalar Try.prog 25 := scalar_of Try.underlying25 rfl (by kernel_rfl)
instance Try.zero25 : Zero Try.prog 25 [.pointer none] := ⟨.pointer none, fun _ => by kernel_rfl, rfl⟩
instance Try.uty26 : UTy Try.prog 26 (.int .i64) := ⟨Try.underlying26⟩
instance Try.sca26 : Scalar Try.prog 26 := scalar_of Try.underlying26 rfl (by kernel_rfl)
instance Try.zero26 : Zero Try.prog 26 [.int .i64 0] := ⟨.int .i64 0, fun _ => by kernel_rfl, rfl⟩
instance Try.uty30 : UTy Try.prog 30 (.int .u32) := ⟨Try.underlying30⟩
instance Try.sca30 : Scalar Try.prog 30 := scalar_of Try.underlying30 rfl (by kernel_rfl)
instance Try.zero30 : Zero Try.prog 30 [.int .u32 0] := ⟨.int .u32 0, fun _ => by kernel_rfl, rfl⟩
instance Try.uty42 : UTy Try.prog 42 (.slice 104) := ⟨Try.underlying42⟩
instance Try.sca42 : Scalar Try.prog 42 := scalar_of Try.underlying42 rfl (by kernel_rfl)
theorem Try.erow42 : (Try.prog.info? 104).map (fun i => (i.zero, i.size, i.bytes)) = some (some (.agg #[.bool false, .int .i64 0, .int .u32 0, .int .i64 0, .int .i64 0, .int .u32 0, .int .u32 0, .int .i64 0, .int .i64 0, .int .i64 0, .int .i64 0]), 11, 80) := by kernel_rfl
instance Try.elem42 : Elem Try.prog 42 104 11 80 := elem_of Try.underlying42 Try.erow42 rfl
instance Try.zero42 : Zero Try.prog 42 [.slice none 0 0] := ⟨.slice none 0 0, fun _ => by kernel_rfl, rfl⟩
instance Try.uty43 : UTy Try.prog 43 (.slice 30) := ⟨Try.underlying43⟩
instance Try.sca43 : Scalar Try.prog 43 := scalar_of Try.underlying43 rfl (by kernel_rfl)
theorem Try.erow43 : (Try.prog.info? 30).map (fun i => (i.zero, i.size, i.bytes)) = some (some (.int .u32 0), 1, 4) := by kernel_rfl
instance Try.elem43 : Elem Try.prog 43 30 1 4 := elem_of Try.underlying43 Try.erow43 rfl
instance Try.zero43 : Zero Try.prog 43 [.slice none 0 0] := ⟨.slice none 0 0, fun _ => by kernel_rfl, rfl⟩
instance Try.agg44 : Agg Try.prog 44 2 := agg_of Try.underlying44 rfl (by kernel_rfl)
instance Try.fld44_0 : FieldOff Try.prog 44 0 0 := field_of (m := 1) Try.underlying44 (by kernel_rfl) rfl
instance Try.fld44_1 : FieldOff Try.prog 44 1 1 := field_of (m := 1) Try.underlying44 (by kernel_rfl) rfl
instance Try.zero44 : Zero Try.prog 44 [.slice none 0 0, .slice none 0 0] := ⟨.agg #[.slice none 0 0, .slice none 0 0], fun _ => by kernel_rfl, rfl⟩
instance Try.agg45 : Agg Try.prog 45 2 := agg_of Try.underlying45 rfl (by kernel_rfl)
instance Try.fld45_0 : FieldOff Try.prog 45 0 0 := field_of (m := 1) Try.underlying45 (by kernel_rfl) rfl
instance Try.fld45_1 : FieldOff Try.prog 45 1 1 := field_of (m := 1) Try.underlying45 (by kernel_rfl) rfl
instance Try.zero45 : Zero Try.prog 45 [.slice none 0 0, .slice none 0 0] := ⟨.agg #[.slice none 0 0, .slice none 0 0], fun _ => by kernel_rfl, rfl⟩
instance Try.agg51 : Agg Try.prog 51 4 := agg_of Try.underlying51 rfl (by kernel_rfl)
instance Try.fld51_0 : FieldOff Try.prog 51 0 0 := field_of (m := 1) Try.underlying51 (by kernel_rfl) rfl
instance Try.fld51_1 : FieldOff Try.prog 51 1 1 := field_of (m := 1) Try.underlying51 (by kernel_rfl) rfl
instance Try.fld51_2 : FieldOff Try.prog 51 2 2 := field_of (m := 1) Try.underlying51 (by kernel_rfl) rfl
instance Try.fld51_3 : FieldOff Try.prog 51 3 3 := field_of (m := 1) Try.underlying51 (by kernel_rfl) rfl
instance Try.zero51 : Zero Try.prog 51 [.int .i64 0, .int .i64 0, .int .i64 0, .bool false] := ⟨.agg #[.int .i64 0, .int .i64 0, .int .i64 0, .bool false], fun _ => by kernel_rfl, rfl⟩
instance Try.agg52 : Agg Try.prog 52 4 := agg_of Try.underlying52 rfl (by kernel_rfl)
instance Try.fld52_0 : FieldOff Try.prog 52 0 0 := field_of (m := 1) Try.underlying52 (by kernel_rfl) rfl
instance Try.fld52_1 : FieldOff Try.prog 52 1 1 := field_of (m := 1) Try.underlying52 (by kernel_rfl) rfl
instance Try.fld52_2 : FieldOff Try.prog 52 2 2 := field_of (m := 1) Try.underlying52 (by kernel_rfl) rfl
instance Try.fld52_3 : FieldOff Try.prog 52 3 3 := field_of (m := 1) Try.underlying52 (by kernel_rfl) rfl
instance Try.zero52 : Zero Try.prog 52 [.int .i64 0, .int .i64 0, .int .i64 0, .bool false] := ⟨.agg #[.int .i64 0, .int .i64 0, .int .i64 0, .bool false], fun _ => by kernel_rfl, rfl⟩
instance Try.uty53 : UTy Try.prog 53 (.slice 5) := ⟨Try.underlying53⟩
instance Try.sca53 : Scalar Try.prog 53 := scalar_of Try.underlying53 rfl (by kernel_rfl)
theorem Try.erow53 : (Try.prog.info? 5).map (fun i => (i.zero, i.size, i.bytes)) = some (some (.int .u8 0), 1, 1) := by kernel_rfl
instance Try.elem53 : Elem Try.prog 53 5 1 1 := elem_of Try.underlying53 Try.erow53 rfl
instance Try.zero53 : Zero Try.prog 53 [.slice none 0 0] := ⟨.slice none 0 0, fun _ => by kernel_rfl, rfl⟩
instance Try.uty64 : UTy Try.prog 64 (.slice 53) := ⟨Try.underlying64⟩
instance Try.sca64 : Scalar Try.prog 64 := scalar_of Try.underlying64 rfl (by kernel_rfl)
theorem Try.erow64 : (Try.prog.info? 53).map (fun i => (i.zero, i.size, i.bytes)) = some (some (.slice none 0 0), 1, 24) := by kernel_rfl
instance Try.elem64 : Elem Try.prog 64 53 1 24 := elem_of Try.underlying64 Try.erow64 rfl
instance Try.zero64 : Zero Try.prog 64 [.slice none 0 0] := ⟨.slice none 0 0, fun _ => by kernel_rfl, rfl⟩
instance Try.agg71 : Agg Try.prog 71 2 := agg_of Try.underlying71 rfl (by kernel_rfl)
instance Try.fld71_0 : FieldOff Try.prog 71 0 0 := field_of (m := 1) Try.underlying71 (by kernel_rfl) rfl
instance Try.fld71_1 : FieldOff Try.prog 71 1 1 := field_of (m := 1) Try.underlying71 (by kernel_rfl) rfl
instance Try.zero71 : Zero Try.prog 71 [.int .i64 0, .int .i64 0] := ⟨.agg #[.int .i64 0, .int .i64 0], fun _ => by kernel_rfl, rfl⟩
instance Try.agg72 : Agg Try.prog 72 2 := agg_of Try.underlying72 rfl (by kernel_rfl)
instance Try.fld72_0 : FieldOff Try.prog 72 0 0 := field_of (m := 1) Try.underlying72 (by kernel_rfl) rfl
instance Try.fld72_1 : FieldOff Try.prog 72 1 1 := field_of (m := 1) Try.underlying72 (by kernel_rfl) rfl
instance Try.zero72 : Zero Try.prog 72 [.int .i64 0, .int .i64 0] := ⟨.agg #[.int .i64 0, .int .i64 0], fun _ => by kernel_rfl, rfl⟩
instance Try.uty78 : UTy Try.prog 78 (.pointer 129) := ⟨Try.underlying78⟩
instance Try.sca78 : Scalar Try.prog 78 := scalar_of Try.underlying78 rfl (by kernel_rfl)
instance Try.zero78 : Zero Try.prog 78 [.pointer none] := ⟨.pointer none, fun _ => by kernel_rfl, rfl⟩
instance Try.uty81 : UTy Try.prog 81 (.slice 102) := ⟨Try.underlying81⟩
instance Try.sca81 : Scalar Try.prog 81 := scalar_of Try.underlying81 rfl (by kernel_rfl)
theorem Try.erow81 : (Try.prog.info? 102).map (fun i => (i.zero, i.size, i.bytes)) = some (some (.agg #[.int .i64 0, .int .i64 0, .int .u32 0, .int .u32 0, .int .i64 0, .int .i64 0, .int .i64 0, .int .i64 0]), 8, 56) := by kernel_rfl
instance Try.elem81 : Elem Try.prog 81 102 8 56 := elem_of Try.underlying81 Try.erow81 rfl
instance Try.zero81 : Zero Try.prog 81 [.slice none 0 0] := ⟨.slice none 0 0, fun _ => by kernel_rfl, rfl⟩
instance Try.uty82 : UTy Try.prog 82 (.slice 3) := ⟨Try.underlying82⟩
instance Try.sca82 : Scalar Try.prog 82 := scalar_of Try.underlying82 rfl (by kernel_rfl)
theorem Try.erow82 : (Try.prog.info? 3).map (fun i => (i.zero, i.size, i.bytes)) = some (some (.int .i64 0), 1, 8) := by kernel_rfl
instance Try.elem82 : Elem Try.prog 82 3 1 8 := elem_of Try.underlying82 Try.erow82 rfl
instance Try.zero82 : Zero Try.prog 82 [.slice none 0 0] := ⟨.slice none 0 0, fun _ => by kernel_rfl, rfl⟩
instance Try.agg83 : Agg Try.prog 83 4 := agg_of Try.underlying83 rfl (by kernel_rfl)
instance Try.fld83_0 : FieldOff Try.prog 83 0 0 := field_of (m := 1) Try.underlying83 (by kernel_rfl) rfl
instance Try.fld83_1 : FieldOff Try.prog 83 1 1 := field_of (m := 1) Try.underlying83 (by kernel_rfl) rfl
instance Try.fld83_2 : FieldOff Try.prog 83 2 2 := field_of (m := 1) Try.underlying83 (by kernel_rfl) rfl
instance Try.fld83_3 : FieldOff Try.prog 83 3 3 := field_of (m := 1) Try.underlying83 (by kernel_rfl) rfl
instance Try.zero83 : Zero Try.prog 83 [.pointer none, .slice none 0 0, .slice none 0 0, .int .u64 0] := ⟨.agg #[.pointer none, .slice none 0 0, .slice none 0 0, .int .u64 0], fun _ => by kernel_rfl, rfl⟩
instance Try.agg84 : Agg Try.prog 84 4 := agg_of Try.underlying84 rfl (by kernel_rfl)
instance Try.fld84_0 : FieldOff Try.prog 84 0 0 := field_of (m := 1) Try.underlying84 (by kernel_rfl) rfl
instance Try.fld84_1 : FieldOff Try.prog 84 1 1 := field_of (m := 1) Try.underlying84 (by kernel_rfl) rfl
instance Try.fld84_2 : FieldOff Try.prog 84 2 2 := field_of (m := 1) Try.underlying84 (by kernel_rfl) rfl
instance Try.fld84_3 : FieldOff Try.prog 84 3 3 := field_of (m := 1) Try.underlying84 (by kernel_rfl) rfl
instance Try.zero84 : Zero Try.prog 84 [.pointer none, .slice none 0 0, .slice none 0 0, .int .u64 0] := ⟨.agg #[.pointer none, .slice none 0 0, .slice none 0 0, .int .u64 0], fun _ => by kernel_rfl, rfl⟩
instance Try.agg91 : Agg Try.prog 91 7 := agg_of Try.underlying91 rfl (by kernel_rfl)
instance Try.fld91_0 : FieldOff Try.prog 91 0 0 := field_of (m := 1) Try.underlying91 (by kernel_rfl) rfl
instance Try.fld91_1 : FieldOff Try.prog 91 1 1 := field_of (m := 1) Try.underlying91 (by kernel_rfl) rfl
instance Try.fld91_2 : FieldOff Try.prog 91 2 2 := field_of (m := 1) Try.underlying91 (by kernel_rfl) rfl
instance Try.fld91_3 : FieldOff Try.prog 91 3 3 := field_of (m := 1) Try.underlying91 (by kernel_rfl) rfl
instance Try.fld91_4 : FieldOff Try.prog 91 4 4 := field_of (m := 1) Try.underlying91 (by kernel_rfl) rfl
instance Try.fld91_5 : FieldOff Try.prog 91 5 5 := field_of (m := 1) Try.underlying91 (by kernel_rfl) rfl
instance Try.fld91_6 : FieldOff Try.prog 91 6 6 := field_of (m := 1) Try.underlying91 (by kernel_rfl) rfl
instance Try.zero91 : Zero Try.prog 91 [.int .i64 0, .int .i64 0, .int .i64 0, .bool false, .bool false, .bool false, .bool false] := ⟨.agg #[.int .i64 0, .int .i64 0, .int .i64 0, .bool false, .bool false, .bool false, .bool false], fun _ => by kernel_rfl, rfl⟩
instance Try.agg92 : Agg Try.prog 92 7 := agg_of Try.underlying92 rfl (by kernel_rfl)
instance Try.fld92_0 : FieldOff Try.prog 92 0 0 := field_of (m := 1) Try.underlying92 (by kernel_rfl) rfl
instance Try.fld92_1 : FieldOff Try.prog 92 1 1 := field_of (m := 1) Try.underlying92 (by kernel_rfl) rfl
instance Try.fld92_2 : FieldOff Try.prog 92 2 2 := field_of (m := 1) Try.underlying92 (by kernel_rfl) rfl
instance Try.fld92_3 : FieldOff Try.prog 92 3 3 := field_of (m := 1) Try.underlying92 (by kernel_rfl) rfl
instance Try.fld92_4 : FieldOff Try.prog 92 4 4 := field_of (m := 1) Try.underlying92 (by kernel_rfl) rfl
instance Try.fld92_5 : FieldOff Try.prog 92 5 5 := field_of (m := 1) Try.underlying92 (by kernel_rfl) rfl
instance Try.fld92_6 : FieldOff Try.prog 92 6 6 := field_of (m := 1) Try.underlying92 (by kernel_rfl) rfl
instance Try.zero92 : Zero Try.prog 92 [.int .i64 0, .int .i64 0, .int .i64 0, .bool false, .bool false, .bool false, .bool false] := ⟨.agg #[.int .i64 0, .int .i64 0, .int .i64 0, .bool false, .bool false, .bool false, .bool false], fun _ => by kernel_rfl, rfl⟩
instance Try.agg101 : Agg Try.prog 101 8 := agg_of Try.underlying101 rfl (by kernel_rfl)
instance Try.fld101_0 : FieldOff Try.prog 101 0 0 := field_of (m := 1) Try.underlying101 (by kernel_rfl) rfl
instance Try.fld101_1 : FieldOff Try.prog 101 1 1 := field_of (m := 1) Try.underlying101 (by kernel_rfl) rfl
instance Try.fld101_2 : FieldOff Try.prog 101 2 2 := field_of (m := 1) Try.underlying101 (by kernel_rfl) rfl
instance Try.fld101_3 : FieldOff Try.prog 101 3 3 := field_of (m := 1) Try.underlying101 (by kernel_rfl) rfl
instance Try.fld101_4 : FieldOff Try.prog 101 4 4 := field_of (m := 1) Try.underlying101 (by kernel_rfl) rfl
instance Try.fld101_5 : FieldOff Try.prog 101 5 5 := field_of (m := 1) Try.underlying101 (by kernel_rfl) rfl
instance Try.fld101_6 : FieldOff Try.prog 101 6 6 := field_of (m := 1) Try.underlying101 (by kernel_rfl) rfl
instance Try.fld101_7 : FieldOff Try.prog 101 7 7 := field_of (m := 1) Try.underlying101 (by kernel_rfl) rfl
instance Try.zero101 : Zero Try.prog 101 [.int .i64 0, .int .i64 0, .int .u32 0, .int .u32 0, .int .i64 0, .int .i64 0, .int .i64 0, .int .i64 0] := ⟨.agg #[.int .i64 0, .int .i64 0, .int .u32 0, .int .u32 0, .int .i64 0, .int .i64 0, .int .i64 0, .int .i64 0], fun _ => by kernel_rfl, rfl⟩
instance Try.agg102 : Agg Try.prog 102 8 := agg_of Try.underlying102 rfl (by kernel_rfl)
instance Try.fld102_0 : FieldOff Try.prog 102 0 0 := field_of (m := 1) Try.underlying102 (by kernel_rfl) rfl
instance Try.fld102_1 : FieldOff Try.prog 102 1 1 := field_of (m := 1) Try.underlying102 (by kernel_rfl) rfl
instance Try.fld102_2 : FieldOff Try.prog 102 2 2 := field_of (m := 1) Try.underlying102 (by kernel_rfl) rfl
instance Try.fld102_3 : FieldOff Try.prog 102 3 3 := field_of (m := 1) Try.underlying102 (by kernel_rfl) rfl
instance Try.fld102_4 : FieldOff Try.prog 102 4 4 := field_of (m := 1) Try.underlying102 (by kernel_rfl) rfl
instance Try.fld102_5 : FieldOff Try.prog 102 5 5 := field_of (m := 1) Try.underlying102 (by kernel_rfl) rfl
instance Try.fld102_6 : FieldOff Try.prog 102 6 6 := field_of (m := 1) Try.underlying102 (by kernel_rfl) rfl
instance Try.fld102_7 : FieldOff Try.prog 102 7 7 := field_of (m := 1) Try.underlying102 (by kernel_rfl) rfl
instance Try.zero102 : Zero Try.prog 102 [.int .i64 0, .int .i64 0, .int .u32 0, .int .u32 0, .int .i64 0, .int .i64 0, .int .i64 0, .int .i64 0] := ⟨.agg #[.int .i64 0, .int .i64 0, .int .u32 0, .int .u32 0, .int .i64 0, .int .i64 0, .int .i64 0, .int .i64 0], fun _ => by kernel_rfl, rfl⟩
instance Try.agg103 : Agg Try.prog 103 11 := agg_of Try.underlying103 rfl (by kernel_rfl)
instance Try.fld103_0 : FieldOff Try.prog 103 0 0 := field_of (m := 1) Try.underlying103 (by kernel_rfl) rfl
instance Try.fld103_1 : FieldOff Try.prog 103 1 1 := field_of (m := 1) Try.underlying103 (by kernel_rfl) rfl
instance Try.fld103_2 : FieldOff Try.prog 103 2 2 := field_of (m := 1) Try.underlying103 (by kernel_rfl) rfl
instance Try.fld103_3 : FieldOff Try.prog 103 3 3 := field_of (m := 8) Try.underlying103 (by kernel_rfl) rfl
instance Try.zero103 : Zero Try.prog 103 [.bool false, .int .i64 0, .int .u32 0, .int .i64 0, .int .i64 0, .int .u32 0, .int .u32 0, .int .i64 0, .int .i64 0, .int .i64 0, .int .i64 0] := ⟨.agg #[.bool false, .int .i64 0, .int .u32 0, .int .i64 0, .int .i64 0, .int .u32 0, .int .u32 0, .int .i64 0, .int .i64 0, .int .i64 0, .int .i64 0], fun _ => by kernel_rfl, rfl⟩
instance Try.agg104 : Agg Try.prog 104 11 := agg_of Try.underlying104 rfl (by kernel_rfl)
instance Try.fld104_0 : FieldOff Try.prog 104 0 0 := field_of (m := 1) Try.underlying104 (by kernel_rfl) rfl
instance Try.fld104_1 : FieldOff Try.prog 104 1 1 := field_of (m := 1) Try.underlying104 (by kernel_rfl) rfl
instance Try.fld104_2 : FieldOff Try.prog 104 2 2 := field_of (m := 1) Try.underlying104 (by kernel_rfl) rfl
instance Try.fld104_3 : FieldOff Try.prog 104 3 3 := field_of (m := 8) Try.underlying104 (by kernel_rfl) rfl
instance Try.zero104 : Zero Try.prog 104 [.bool false, .int .i64 0, .int .u32 0, .int .i64 0, .int .i64 0, .int .u32 0, .int .u32 0, .int .i64 0, .int .i64 0, .int .i64 0, .int .i64 0] := ⟨.agg #[.bool false, .int .i64 0, .int .u32 0, .int .i64 0, .int .i64 0, .int .u32 0, .int .u32 0, .int .i64 0, .int .i64 0, .int .i64 0, .int .i64 0], fun _ => by kernel_rfl, rfl⟩
instance Try.uty127 : UTy Try.prog 127 (.slice 4) := ⟨Try.underlying127⟩
instance Try.sca127 : Scalar Try.prog 127 := scalar_of Try.underlying127 rfl (by kernel_rfl)
theorem Try.erow127 : (Try.prog.info? 4).map (fun i => (i.zero, i.size, i.bytes)) = some (some (.bool false), 1, 1) := by kernel_rfl
instance Try.elem127 : Elem Try.prog 127 4 1 1 := elem_of Try.underlying127 Try.erow127 rfl
instance Try.zero127 : Zero Try.prog 127 [.slice none 0 0] := ⟨.slice none 0 0, fun _ => by kernel_rfl, rfl⟩
instance Try.agg128 : Agg Try.prog 128 4 := agg_of Try.underlying128 rfl (by kernel_rfl)
instance Try.fld128_0 : FieldOff Try.prog 128 0 0 := field_of (m := 1) Try.underlying128 (by kernel_rfl) rfl
instance Try.fld128_1 : FieldOff Try.prog 128 1 1 := field_of (m := 1) Try.underlying128 (by kernel_rfl) rfl
instance Try.fld128_2 : FieldOff Try.prog 128 2 2 := field_of (m := 1) Try.underlying128 (by kernel_rfl) rfl
instance Try.fld128_3 : FieldOff Try.prog 128 3 3 := field_of (m := 1) Try.underlying128 (by kernel_rfl) rfl
instance Try.zero128 : Zero Try.prog 128 [.slice none 0 0, .slice none 0 0, .slice none 0 0, .int .u32 0] := ⟨.agg #[.slice none 0 0, .slice none 0 0, .slice none 0 0, .int .u32 0], fun _ => by kernel_rfl, rfl⟩
instance Try.agg129 : Agg Try.prog 129 4 := agg_of Try.underlying129 rfl (by kernel_rfl)
instance Try.fld129_0 : FieldOff Try.prog 129 0 0 := field_of (m := 1) Try.underlying129 (by kernel_rfl) rfl
instance Try.fld129_1 : FieldOff Try.prog 129 1 1 := field_of (m := 1) Try.underlying129 (by kernel_rfl) rfl
instance Try.fld129_2 : FieldOff Try.prog 129 2 2 := field_of (m := 1) Try.underlying129 (by kernel_rfl) rfl
instance Try.fld129_3 : FieldOff Try.prog 129 3 3 := field_of (m := 1) Try.underlying129 (by kernel_rfl) rfl
instance Try.zero129 : Zero Try.prog 129 [.slice none 0 0, .slice none 0 0, .slice none 0 0, .int .u32 0] := ⟨.agg #[.slice none 0 0, .slice none 0 0, .slice none 0 0, .int .u32 0], fun _ => by kernel_rfl, rfl⟩
instance Try.uty132 : UTy Try.prog 132 (.array 2 30) := ⟨Try.underlying132⟩
instance Try.agg132 : Agg Try.prog 132 2 := agg_of Try.underlying132 rfl (by kernel_rfl)
instance Try.zero132 : Zero Try.prog 132 [.int .u32 0, .int .u32 0] := ⟨.agg #[.int .u32 0, .int .u32 0], fun _ => by kernel_rfl, rfl⟩
instance Try.uty133 : UTy Try.prog 133 (.pointer 102) := ⟨Try.underlying133⟩
instance Try.sca133 : Scalar Try.prog 133 := scalar_of Try.underlying133 rfl (by kernel_rfl)
instance Try.zero133 : Zero Try.prog 133 [.pointer none] := ⟨.pointer none, fun _ => by kernel_rfl, rfl⟩
instance Try.uty136 : UTy Try.prog 136 (.slice 141) := ⟨Try.underlying136⟩
instance Try.sca136 : Scalar Try.prog 136 := scalar_of Try.underlying136 rfl (by kernel_rfl)
theorem Try.erow136 : (Try.prog.info? 141).map (fun i => (i.zero, i.size, i.bytes)) = some (some (.agg #[.int .u32 0, .int .i64 0, .int .i64 0, .int .i64 0, .bool false]), 5, 40) := by kernel_rfl
instance Try.elem136 : Elem Try.prog 136 141 5 40 := elem_of Try.underlying136 Try.erow136 rfl
instance Try.zero136 : Zero Try.prog 136 [.slice none 0 0] := ⟨.slice none 0 0, fun _ => by kernel_rfl, rfl⟩
instance Try.agg137 : Agg Try.prog 137 1 := agg_of Try.underlying137 rfl (by kernel_rfl)
instance Try.fld137_0 : FieldOff Try.prog 137 0 0 := field_of (m := 1) Try.underlying137 (by kernel_rfl) rfl
instance Try.zero137 : Zero Try.prog 137 [.slice none 0 0] := ⟨.agg #[.slice none 0 0], fun _ => by kernel_rfl, rfl⟩
instance Try.agg138 : Agg Try.prog 138 1 := agg_of Try.underlying138 rfl (by kernel_rfl)
instance Try.fld138_0 : FieldOff Try.prog 138 0 0 := field_of (m := 1) Try.underlying138 (by kernel_rfl) rfl
instance Try.zero138 : Zero Try.prog 138 [.slice none 0 0] := ⟨.agg #[.slice none 0 0], fun _ => by kernel_rfl, rfl⟩
instance Try.agg140 : Agg Try.prog 140 5 := agg_of Try.underlying140 rfl (by kernel_rfl)
instance Try.fld140_0 : FieldOff Try.prog 140 0 0 := field_of (m := 1) Try.underlying140 (by kernel_rfl) rfl
instance Try.fld140_1 : FieldOff Try.prog 140 1 1 := field_of (m := 1) Try.underlying140 (by kernel_rfl) rfl
instance Try.fld140_2 : FieldOff Try.prog 140 2 2 := field_of (m := 2) Try.underlying140 (by kernel_rfl) rfl
instance Try.fld140_3 : FieldOff Try.prog 140 3 4 := field_of (m := 1) Try.underlying140 (by kernel_rfl) rfl
instance Try.zero140 : Zero Try.prog 140 [.int .u32 0, .int .i64 0, .int .i64 0, .int .i64 0, .bool false] := ⟨.agg #[.int .u32 0, .int .i64 0, .int .i64 0, .int .i64 0, .bool false], fun _ => by kernel_rfl, rfl⟩
instance Try.agg141 : Agg Try.prog 141 5 := agg_of Try.underlying141 rfl (by kernel_rfl)
instance Try.fld141_0 : FieldOff Try.prog 141 0 0 := field_of (m := 1) Try.underlying141 (by kernel_rfl) rfl
instance Try.fld141_1 : FieldOff Try.prog 141 1 1 := field_of (m := 1) Try.underlying141 (by kernel_rfl) rfl
instance Try.fld141_2 : FieldOff Try.prog 141 2 2 := field_of (m := 2) Try.underlying141 (by kernel_rfl) rfl
instance Try.fld141_3 : FieldOff Try.prog 141 3 4 := field_of (m := 1) Try.underlying141 (by kernel_rfl) rfl
instance Try.zero141 : Zero Try.prog 141 [.int .u32 0, .int .i64 0, .int .i64 0, .int .i64 0, .bool false] := ⟨.agg #[.int .u32 0, .int .i64 0, .int .i64 0, .int .i64 0, .bool false], fun _ => by kernel_rfl, rfl⟩
instance Try.uty145 : UTy Try.prog 145 (.int .u64) := ⟨Try.underlying145⟩
instance Try.sca145 : Scalar Try.prog 145 := scalar_of Try.underlying145 rfl (by kernel_rfl)
instance Try.zero145 : Zero Try.prog 145 [.int .u64 0] := ⟨.int .u64 0, fun _ => by kernel_rfl, rfl⟩
instance Try.uty149 : UTy Try.prog 149 (.pointer 151) := ⟨Try.underlying149⟩
instance Try.sca149 : Scalar Try.prog 149 := scalar_of Try.underlying149 rfl (by kernel_rfl)
instance Try.zero149 : Zero Try.prog 149 [.pointer none] := ⟨.pointer none, fun _ => by kernel_rfl, rfl⟩
instance Try.agg150 : Agg Try.prog 150 3 := agg_of Try.underlying150 rfl (by kernel_rfl)
instance Try.fld150_0 : FieldOff Try.prog 150 0 0 := field_of (m := 1) Try.underlying150 (by kernel_rfl) rfl
instance Try.fld150_1 : FieldOff Try.prog 150 1 1 := field_of (m := 1) Try.underlying150 (by kernel_rfl) rfl
instance Try.fld150_2 : FieldOff Try.prog 150 2 2 := field_of (m := 1) Try.underlying150 (by kernel_rfl) rfl
instance Try.zero150 : Zero Try.prog 150 [.pointer none, .slice none 0 0, .int .i64 0] := ⟨.agg #[.pointer none, .slice none 0 0, .int .i64 0], fun _ => by kernel_rfl, rfl⟩
instance Try.agg151 : Agg Try.prog 151 3 := agg_of Try.underlying151 rfl (by kernel_rfl)
instance Try.fld151_0 : FieldOff Try.prog 151 0 0 := field_of (m := 1) Try.underlying151 (by kernel_rfl) rfl
instance Try.fld151_1 : FieldOff Try.prog 151 1 1 := field_of (m := 1) Try.underlying151 (by kernel_rfl) rfl
instance Try.fld151_2 : FieldOff Try.prog 151 2 2 := field_of (m := 1) Try.underlying151 (by kernel_rfl) rfl
instance Try.zero151 : Zero Try.prog 151 [.pointer none, .slice none 0 0, .int .i64 0] := ⟨.agg #[.pointer none, .slice none 0 0, .int .i64 0], fun _ => by kernel_rfl, rfl⟩
instance Try.uty153 : UTy Try.prog 153 (.pointer 138) := ⟨Try.underlying153⟩
instance Try.sca153 : Scalar Try.prog 153 := scalar_of Try.underlying153 rfl (by kernel_rfl)
instance Try.zero153 : Zero Try.prog 153 [.pointer none] := ⟨.pointer none, fun _ => by kernel_rfl, rfl⟩
instance Try.uty158 : UTy Try.prog 158 (.array 256 30) := ⟨Try.underlying158⟩
instance Try.agg158 : Agg Try.prog 158 256 := agg_of Try.underlying158 rfl (by kernel_rfl)
instance Try.uty164 : UTy Try.prog 164 (.array 0 16) := ⟨Try.underlying164⟩
instance Try.zero164 : Zero Try.prog 164 [] := ⟨.agg #[], fun _ => by kernel_rfl, rfl⟩
instance Try.uty170 : UTy Try.prog 170 (.pointer 5) := ⟨Try.underlying170⟩
instance Try.sca170 : Scalar Try.prog 170 := scalar_of Try.underlying170 rfl (by kernel_rfl)
instance Try.zero170 : Zero Try.prog 170 [.pointer none] := ⟨.pointer none, fun _ => by kernel_rfl, rfl⟩
instance Try.agg173 : Agg Try.prog 173 11 := agg_of Try.underlying173 rfl (by kernel_rfl)
instance Try.fld173_0 : FieldOff Try.prog 173 0 0 := field_of (m := 1) Try.underlying173 (by kernel_rfl) rfl
instance Try.fld173_1 : FieldOff Try.prog 173 1 1 := field_of (m := 1) Try.underlying173 (by kernel_rfl) rfl
instance Try.fld173_2 : FieldOff Try.prog 173 2 2 := field_of (m := 1) Try.underlying173 (by kernel_rfl) rfl
instance Try.fld173_3 : FieldOff Try.prog 173 3 3 := field_of (m := 1) Try.underlying173 (by kernel_rfl) rfl
instance Try.fld173_4 : FieldOff Try.prog 173 4 4 := field_of (m := 1) Try.underlying173 (by kernel_rfl) rfl
instance Try.fld173_5 : FieldOff Try.prog 173 5 5 := field_of (m := 1) Try.underlying173 (by kernel_rfl) rfl
instance Try.fld173_6 : FieldOff Try.prog 173 6 6 := field_of (m := 1) Try.underlying173 (by kernel_rfl) rfl
instance Try.fld173_7 : FieldOff Try.prog 173 7 7 := field_of (m := 1) Try.underlying173 (by kernel_rfl) rfl
instance Try.fld173_8 : FieldOff Try.prog 173 8 8 := field_of (m := 1) Try.underlying173 (by kernel_rfl) rfl
instance Try.fld173_9 : FieldOff Try.prog 173 9 9 := field_of (m := 1) Try.underlying173 (by kernel_rfl) rfl
instance Try.fld173_10 : FieldOff Try.prog 173 10 10 := field_of (m := 1) Try.underlying173 (by kernel_rfl) rfl
instance Try.zero173 : Zero Try.prog 173 [.int .u64 0, .int .u64 0, .int .u32 0, .int .u8 0, .int .u8 0, .int .u8 0, .int .u8 0, .nilFunc, .pointer none, .int .i32 0, .int .i32 0] := ⟨.agg #[.int .u64 0, .int .u64 0, .int .u32 0, .int .u8 0, .int .u8 0, .int .u8 0, .int .u8 0, .nilFunc, .pointer none, .int .i32 0, .int .i32 0], fun _ => by kernel_rfl, rfl⟩
instance Try.part2 : PartT Try.prog 2 none := part_scalar inferInstance
instance Try.eqp2 : EqP Try.prog 2 [true] 1 := eqp_int Try.underlying2 inferInstance
instance Try.part3 : PartT Try.prog 3 none := part_scalar inferInstance
instance Try.eqp3 : EqP Try.prog 3 [true] 1 := eqp_int Try.underlying3 inferInstance
instance Try.part4 : PartT Try.prog 4 none := part_scalar inferInstance
instance Try.eqp4 : EqP Try.prog 4 [false] 1 := eqp_bool Try.underlying4 inferInstance
instance Try.part5 : PartT Try.prog 5 none := part_scalar inferInstance
instance Try.eqp5 : EqP Try.prog 5 [true] 1 := eqp_int Try.underlying5 inferInstance
instance Try.part9 : PartT Try.prog 9 none := part_scalar inferInstance
instance Try.part12 : PartT Try.prog 12 none := part_scalar inferInstance
instance Try.eqp12 : EqP Try.prog 12 [true] 1 := eqp_int Try.underlying12 inferInstance
instance Try.part15 : PartT Try.prog 15 none := part_scalar inferInstance
instance Try.part16 : PartT Try.prog 16 none := part_scalar inferInstance
instance Try.part17 : PartT Try.prog 17 none := part_scalar inferInstance
instance Try.part21 : PartT Try.prog 21 none := part_scalar inferInstance
instance Try.eqp21 : EqP Try.prog 21 [true] 1 := eqp_int Try.underlying21 inferInstance
instance Try.part22 : PartT Try.prog 22 none := part_scalar inferInstance
instance Try.part23 : PartT Try.prog 23 none := part_scalar inferInstance
instance Try.eqp23 : EqP Try.prog 23 [true] 1 := eqp_int Try.underlying23 inferInstance
instance Try.part25 : PartT Try.prog 25 none := part_scalar inferInstance
instance Try.part26 : PartT Try.prog 26 none := part_scalar inferInstance
instance Try.eqp26 : EqP Try.prog 26 [true] 1 := eqp_int Try.underlying26 inferInstance
instance Try.part30 : PartT Try.prog 30 none := part_scalar inferInstance
instance Try.eqp30 : EqP Try.prog 30 [true] 1 := eqp_int Try.underlying30 inferInstance
instance Try.part42 : PartT Try.prog 42 none := part_scalar inferInstance
instance Try.part43 : PartT Try.prog 43 none := part_scalar inferInstance
instance Try.part44 : PartT Try.prog 44 (some 2) := part_agg inferInstance rfl
instance Try.bld44 : Bld Try.prog 44 [[.slice none 0 0], [.slice none 0 0]] := bld_struct Try.underlying44 (z := .agg #[.slice none 0 0, .slice none 0 0]) (fun _ => by kernel_rfl) rfl (by kernel_rfl) rfl
instance Try.fv44_0 : FieldV Try.prog 44 0 42 0 := fieldV_of Try.underlying44 (by kernel_rfl)
instance Try.fv44_1 : FieldV Try.prog 44 1 43 1 := fieldV_of Try.underlying44 (by kernel_rfl)
instance Try.part45 : PartT Try.prog 45 (some 2) := part_agg inferInstance rfl
instance Try.bld45 : Bld Try.prog 45 [[.slice none 0 0], [.slice none 0 0]] := bld_struct Try.underlying45 (z := .agg #[.slice none 0 0, .slice none 0 0]) (fun _ => by kernel_rfl) rfl (by kernel_rfl) rfl
instance Try.fv45_0 : FieldV Try.prog 45 0 42 0 := fieldV_of Try.underlying45 (by kernel_rfl)
instance Try.fv45_1 : FieldV Try.prog 45 1 43 1 := fieldV_of Try.underlying45 (by kernel_rfl)
instance Try.part51 : PartT Try.prog 51 (some 4) := part_agg inferInstance rfl
instance Try.bld51 : Bld Try.prog 51 [[.int .i64 0], [.int .i64 0], [.int .i64 0], [.bool false]] := bld_struct Try.underlying51 (z := .agg #[.int .i64 0, .int .i64 0, .int .i64 0, .bool false]) (fun _ => by kernel_rfl) rfl (by kernel_rfl) rfl
instance Try.fv51_0 : FieldV Try.prog 51 0 2 0 := fieldV_of Try.underlying51 (by kernel_rfl)
instance Try.fv51_1 : FieldV Try.prog 51 1 2 1 := fieldV_of Try.underlying51 (by kernel_rfl)
instance Try.fv51_2 : FieldV Try.prog 51 2 3 2 := fieldV_of Try.underlying51 (by kernel_rfl)
instance Try.fv51_3 : FieldV Try.prog 51 3 4 3 := fieldV_of Try.underlying51 (by kernel_rfl)
instance Try.eqp51 : EqP Try.prog 51 [true, true, true, false] 2 := eqp_struct Try.underlying51 inferInstance rfl rfl (by kernel_rfl) ⟨by decide, rfl, [true], [true, true, false], 1, inferInstance, by decide, rfl, ⟨by decide, rfl, [true], [true, false], 1, inferInstance, by decide, rfl, ⟨by decide, rfl, [true], [false], 1, inferInstance, by decide, rfl, ⟨by decide, rfl, [false], [], 1, inferInstance, by decide, rfl, rfl⟩⟩⟩⟩
instance Try.eqg51 : EqG Try.prog 51 := ⟨by kernel_rfl⟩
instance Try.part52 : PartT Try.prog 52 (some 4) := part_agg inferInstance rfl
instance Try.bld52 : Bld Try.prog 52 [[.int .i64 0], [.int .i64 0], [.int .i64 0], [.bool false]] := bld_struct Try.underlying52 (z := .agg #[.int .i64 0, .int .i64 0, .int .i64 0, .bool false]) (fun _ => by kernel_rfl) rfl (by kernel_rfl) rfl
instance Try.fv52_0 : FieldV Try.prog 52 0 2 0 := fieldV_of Try.underlying52 (by kernel_rfl)
instance Try.fv52_1 : FieldV Try.prog 52 1 2 1 := fieldV_of Try.underlying52 (by kernel_rfl)
instance Try.fv52_2 : FieldV Try.prog 52 2 3 2 := fieldV_of Try.underlying52 (by kernel_rfl)
instance Try.fv52_3 : FieldV Try.prog 52 3 4 3 := fieldV_of Try.underlying52 (by kernel_rfl)
instance Try.eqp52 : EqP Try.prog 52 [true, true, true, false] 2 := eqp_struct Try.underlying52 inferInstance rfl rfl (by kernel_rfl) ⟨by decide, rfl, [true], [true, true, false], 1, inferInstance, by decide, rfl, ⟨by decide, rfl, [true], [true, false], 1, inferInstance, by decide, rfl, ⟨by decide, rfl, [true], [false], 1, inferInstance, by decide, rfl, ⟨by decide, rfl, [false], [], 1, inferInstance, by decide, rfl, rfl⟩⟩⟩⟩
instance Try.eqg52 : EqG Try.prog 52 := ⟨by kernel_rfl⟩
instance Try.part53 : PartT Try.prog 53 none := part_scalar inferInstance
instance Try.part64 : PartT Try.prog 64 none := part_scalar inferInstance
instance Try.part71 : PartT Try.prog 71 (some 2) := part_agg inferInstance rfl
instance Try.bld71 : Bld Try.prog 71 [[.int .i64 0], [.int .i64 0]] := bld_struct Try.underlying71 (z := .agg #[.int .i64 0, .int .i64 0]) (fun _ => by kernel_rfl) rfl (by kernel_rfl) rfl
instance Try.fv71_0 : FieldV Try.prog 71 0 2 0 := fieldV_of Try.underlying71 (by kernel_rfl)
instance Try.fv71_1 : FieldV Try.prog 71 1 2 1 := fieldV_of Try.underlying71 (by kernel_rfl)
instance Try.eqp71 : EqP Try.prog 71 [true, true] 2 := eqp_struct Try.underlying71 inferInstance rfl rfl (by kernel_rfl) ⟨by decide, rfl, [true], [true], 1, inferInstance, by decide, rfl, ⟨by decide, rfl, [true], [], 1, inferInstance, by decide, rfl, rfl⟩⟩
instance Try.eqg71 : EqG Try.prog 71 := ⟨by kernel_rfl⟩
instance Try.part72 : PartT Try.prog 72 (some 2) := part_agg inferInstance rfl
instance Try.bld72 : Bld Try.prog 72 [[.int .i64 0], [.int .i64 0]] := bld_struct Try.underlying72 (z := .agg #[.int .i64 0, .int .i64 0]) (fun _ => by kernel_rfl) rfl (by kernel_rfl) rfl
instance Try.fv72_0 : FieldV Try.prog 72 0 2 0 := fieldV_of Try.underlying72 (by kernel_rfl)
instance Try.fv72_1 : FieldV Try.prog 72 1 2 1 := fieldV_of Try.underlying72 (by kernel_rfl)
instance Try.eqp72 : EqP Try.prog 72 [true, true] 2 := eqp_struct Try.underlying72 inferInstance rfl rfl (by kernel_rfl) ⟨by decide, rfl, [true], [true], 1, inferInstance, by decide, rfl, ⟨by decide, rfl, [true], [], 1, inferInstance, by decide, rfl, rfl⟩⟩
instance Try.eqg72 : EqG Try.prog 72 := ⟨by kernel_rfl⟩
instance Try.part78 : PartT Try.prog 78 none := part_scalar inferInstance
instance Try.part81 : PartT Try.prog 81 none := part_scalar inferInstance
instance Try.part82 : PartT Try.prog 82 none := part_scalar inferInstance
instance Try.part83 : PartT Try.prog 83 (some 4) := part_agg inferInstance rfl
instance Try.bld83 : Bld Try.prog 83 [[.pointer none], [.slice none 0 0], [.slice none 0 0], [.int .u64 0]] := bld_struct Try.underlying83 (z := .agg #[.pointer none, .slice none 0 0, .slice none 0 0, .int .u64 0]) (fun _ => by kernel_rfl) rfl (by kernel_rfl) rfl
instance Try.fv83_0 : FieldV Try.prog 83 0 78 0 := fieldV_of Try.underlying83 (by kernel_rfl)
instance Try.fv83_1 : FieldV Try.prog 83 1 81 1 := fieldV_of Try.underlying83 (by kernel_rfl)
instance Try.fv83_2 : FieldV Try.prog 83 2 82 2 := fieldV_of Try.underlying83 (by kernel_rfl)
instance Try.fv83_3 : FieldV Try.prog 83 3 23 3 := fieldV_of Try.underlying83 (by kernel_rfl)
instance Try.part84 : PartT Try.prog 84 (some 4) := part_agg inferInstance rfl
instance Try.bld84 : Bld Try.prog 84 [[.pointer none], [.slice none 0 0], [.slice none 0 0], [.int .u64 0]] := bld_struct Try.underlying84 (z := .agg #[.pointer none, .slice none 0 0, .slice none 0 0, .int .u64 0]) (fun _ => by kernel_rfl) rfl (by kernel_rfl) rfl
instance Try.fv84_0 : FieldV Try.prog 84 0 78 0 := fieldV_of Try.underlying84 (by kernel_rfl)
instance Try.fv84_1 : FieldV Try.prog 84 1 81 1 := fieldV_of Try.underlying84 (by kernel_rfl)
instance Try.fv84_2 : FieldV Try.prog 84 2 82 2 := fieldV_of Try.underlying84 (by kernel_rfl)
instance Try.fv84_3 : FieldV Try.prog 84 3 23 3 := fieldV_of Try.underlying84 (by kernel_rfl)
instance Try.part91 : PartT Try.prog 91 (some 7) := part_agg inferInstance rfl
instance Try.bld91 : Bld Try.prog 91 [[.int .i64 0], [.int .i64 0], [.int .i64 0], [.bool false], [.bool false], [.bool false], [.bool false]] := bld_struct Try.underlying91 (z := .agg #[.int .i64 0, .int .i64 0, .int .i64 0, .bool false, .bool false, .bool false, .bool false]) (fun _ => by kernel_rfl) rfl (by kernel_rfl) rfl
instance Try.fv91_0 : FieldV Try.prog 91 0 2 0 := fieldV_of Try.underlying91 (by kernel_rfl)
instance Try.fv91_1 : FieldV Try.prog 91 1 2 1 := fieldV_of Try.underlying91 (by kernel_rfl)
instance Try.fv91_2 : FieldV Try.prog 91 2 2 2 := fieldV_of Try.underlying91 (by kernel_rfl)
instance Try.fv91_3 : FieldV Try.prog 91 3 4 3 := fieldV_of Try.underlying91 (by kernel_rfl)
instance Try.fv91_4 : FieldV Try.prog 91 4 4 4 := fieldV_of Try.underlying91 (by kernel_rfl)
instance Try.fv91_5 : FieldV Try.prog 91 5 4 5 := fieldV_of Try.underlying91 (by kernel_rfl)
instance Try.fv91_6 : FieldV Try.prog 91 6 4 6 := fieldV_of Try.underlying91 (by kernel_rfl)
instance Try.eqp91 : EqP Try.prog 91 [true, true, true, false, false, false, false] 2 := eqp_struct Try.underlying91 inferInstance rfl rfl (by kernel_rfl) ⟨by decide, rfl, [true], [true, true, false, false, false, false], 1, inferInstance, by decide, rfl, ⟨by decide, rfl, [true], [true, false, false, false, false], 1, inferInstance, by decide, rfl, ⟨by decide, rfl, [true], [false, false, false, false], 1, inferInstance, by decide, rfl, ⟨by decide, rfl, [false], [false, false, false], 1, inferInstance, by decide, rfl, ⟨by decide, rfl, [false], [false, false], 1, inferInstance, by decide, rfl, ⟨by decide, rfl, [false], [false], 1, inferInstance, by decide, rfl, ⟨by decide, rfl, [false], [], 1, inferInstance, by decide, rfl, rfl⟩⟩⟩⟩⟩⟩⟩
instance Try.eqg91 : EqG Try.prog 91 := ⟨by kernel_rfl⟩
instance Try.part92 : PartT Try.prog 92 (some 7) := part_agg inferInstance rfl
instance Try.bld92 : Bld Try.prog 92 [[.int .i64 0], [.int .i64 0], [.int .i64 0], [.bool false], [.bool false], [.bool false], [.bool false]] := bld_struct Try.underlying92 (z := .agg #[.int .i64 0, .int .i64 0, .int .i64 0, .bool false, .bool false, .bool false, .bool false]) (fun _ => by kernel_rfl) rfl (by kernel_rfl) rfl
instance Try.fv92_0 : FieldV Try.prog 92 0 2 0 := fieldV_of Try.underlying92 (by kernel_rfl)
instance Try.fv92_1 : FieldV Try.prog 92 1 2 1 := fieldV_of Try.underlying92 (by kernel_rfl)
instance Try.fv92_2 : FieldV Try.prog 92 2 2 2 := fieldV_of Try.underlying92 (by kernel_rfl)
instance Try.fv92_3 : FieldV Try.prog 92 3 4 3 := fieldV_of Try.underlying92 (by kernel_rfl)
instance Try.fv92_4 : FieldV Try.prog 92 4 4 4 := fieldV_of Try.underlying92 (by kernel_rfl)
instance Try.fv92_5 : FieldV Try.prog 92 5 4 5 := fieldV_of Try.underlying92 (by kernel_rfl)
instance Try.fv92_6 : FieldV Try.prog 92 6 4 6 := fieldV_of Try.underlying92 (by kernel_rfl)
instance Try.eqp92 : EqP Try.prog 92 [true, true, true, false, false, false, false] 2 := eqp_struct Try.underlying92 inferInstance rfl rfl (by kernel_rfl) ⟨by decide, rfl, [true], [true, true, false, false, false, false], 1, inferInstance, by decide, rfl, ⟨by decide, rfl, [true], [true, false, false, false, false], 1, inferInstance, by decide, rfl, ⟨by decide, rfl, [true], [false, false, false, false], 1, inferInstance, by decide, rfl, ⟨by decide, rfl, [false], [false, false, false], 1, inferInstance, by decide, rfl, ⟨by decide, rfl, [false], [false, false], 1, inferInstance, by decide, rfl, ⟨by decide, rfl, [false], [false], 1, inferInstance, by decide, rfl, ⟨by decide, rfl, [false], [], 1, inferInstance, by decide, rfl, rfl⟩⟩⟩⟩⟩⟩⟩
instance Try.eqg92 : EqG Try.prog 92 := ⟨by kernel_rfl⟩
instance Try.part101 : PartT Try.prog 101 (some 8) := part_agg inferInstance rfl
instance Try.bld101 : Bld Try.prog 101 [[.int .i64 0], [.int .i64 0], [.int .u32 0], [.int .u32 0], [.int .i64 0], [.int .i64 0], [.int .i64 0], [.int .i64 0]] := bld_struct Try.underlying101 (z := .agg #[.int .i64 0, .int .i64 0, .int .u32 0, .int .u32 0, .int .i64 0, .int .i64 0, .int .i64 0, .int .i64 0]) (fun _ => by kernel_rfl) rfl (by kernel_rfl) rfl
instance Try.fv101_0 : FieldV Try.prog 101 0 2 0 := fieldV_of Try.underlying101 (by kernel_rfl)
instance Try.fv101_1 : FieldV Try.prog 101 1 2 1 := fieldV_of Try.underlying101 (by kernel_rfl)
instance Try.fv101_2 : FieldV Try.prog 101 2 30 2 := fieldV_of Try.underlying101 (by kernel_rfl)
instance Try.fv101_3 : FieldV Try.prog 101 3 30 3 := fieldV_of Try.underlying101 (by kernel_rfl)
instance Try.fv101_4 : FieldV Try.prog 101 4 3 4 := fieldV_of Try.underlying101 (by kernel_rfl)
instance Try.fv101_5 : FieldV Try.prog 101 5 2 5 := fieldV_of Try.underlying101 (by kernel_rfl)
instance Try.fv101_6 : FieldV Try.prog 101 6 2 6 := fieldV_of Try.underlying101 (by kernel_rfl)
instance Try.fv101_7 : FieldV Try.prog 101 7 2 7 := fieldV_of Try.underlying101 (by kernel_rfl)
instance Try.eqp101 : EqP Try.prog 101 [true, true, true, true, true, true, true, true] 2 := eqp_struct Try.underlying101 inferInstance rfl rfl (by kernel_rfl) ⟨by decide, rfl, [true], [true, true, true, true, true, true, true], 1, inferInstance, by decide, rfl, ⟨by decide, rfl, [true], [true, true, true, true, true, true], 1, inferInstance, by decide, rfl, ⟨by decide, rfl, [true], [true, true, true, true, true], 1, inferInstance, by decide, rfl, ⟨by decide, rfl, [true], [true, true, true, true], 1, inferInstance, by decide, rfl, ⟨by decide, rfl, [true], [true, true, true], 1, inferInstance, by decide, rfl, ⟨by decide, rfl, [true], [true, true], 1, inferInstance, by decide, rfl, ⟨by decide, rfl, [true], [true], 1, inferInstance, by decide, rfl, ⟨by decide, rfl, [true], [], 1, inferInstance, by decide, rfl, rfl⟩⟩⟩⟩⟩⟩⟩⟩
instance Try.eqg101 : EqG Try.prog 101 := ⟨by kernel_rfl⟩
instance Try.part102 : PartT Try.prog 102 (some 8) := part_agg inferInstance rfl
instance Try.bld102 : Bld Try.prog 102 [[.int .i64 0], [.int .i64 0], [.int .u32 0], [.int .u32 0], [.int .i64 0], [.int .i64 0], [.int .i64 0], [.int .i64 0]] := bld_struct Try.underlying102 (z := .agg #[.int .i64 0, .int .i64 0, .int .u32 0, .int .u32 0, .int .i64 0, .int .i64 0, .int .i64 0, .int .i64 0]) (fun _ => by kernel_rfl) rfl (by kernel_rfl) rfl
instance Try.fv102_0 : FieldV Try.prog 102 0 2 0 := fieldV_of Try.underlying102 (by kernel_rfl)
instance Try.fv102_1 : FieldV Try.prog 102 1 2 1 := fieldV_of Try.underlying102 (by kernel_rfl)
instance Try.fv102_2 : FieldV Try.prog 102 2 30 2 := fieldV_of Try.underlying102 (by kernel_rfl)
instance Try.fv102_3 : FieldV Try.prog 102 3 30 3 := fieldV_of Try.underlying102 (by kernel_rfl)
instance Try.fv102_4 : FieldV Try.prog 102 4 3 4 := fieldV_of Try.underlying102 (by kernel_rfl)
instance Try.fv102_5 : FieldV Try.prog 102 5 2 5 := fieldV_of Try.underlying102 (by kernel_rfl)
instance Try.fv102_6 : FieldV Try.prog 102 6 2 6 := fieldV_of Try.underlying102 (by kernel_rfl)
instance Try.fv102_7 : FieldV Try.prog 102 7 2 7 := fieldV_of Try.underlying102 (by kernel_rfl)
instance Try.eqp102 : EqP Try.prog 102 [true, true, true, true, true, true, true, true] 2 := eqp_struct Try.underlying102 inferInstance rfl rfl (by kernel_rfl) ⟨by decide, rfl, [true], [true, true, true, true, true, true, true], 1, inferInstance, by decide, rfl, ⟨by decide, rfl, [true], [true, true, true, true, true, true], 1, inferInstance, by decide, rfl, ⟨by decide, rfl, [true], [true, true, true, true, true], 1, inferInstance, by decide, rfl, ⟨by decide, rfl, [true], [true, true, true, true], 1, inferInstance, by decide, rfl, ⟨by decide, rfl, [true], [true, true, true], 1, inferInstance, by decide, rfl, ⟨by decide, rfl, [true], [true, true], 1, inferInstance, by decide, rfl, ⟨by decide, rfl, [true], [true], 1, inferInstance, by decide, rfl, ⟨by decide, rfl, [true], [], 1, inferInstance, by decide, rfl, rfl⟩⟩⟩⟩⟩⟩⟩⟩
instance Try.eqg102 : EqG Try.prog 102 := ⟨by kernel_rfl⟩
instance Try.part103 : PartT Try.prog 103 (some 11) := part_agg inferInstance rfl
instance Try.bld103 : Bld Try.prog 103 [[.bool false], [.int .i64 0], [.int .u32 0], [.int .i64 0, .int .i64 0, .int .u32 0, .int .u32 0, .int .i64 0, .int .i64 0, .int .i64 0, .int .i64 0]] := bld_struct Try.underlying103 (z := .agg #[.bool false, .int .i64 0, .int .u32 0, .int .i64 0, .int .i64 0, .int .u32 0, .int .u32 0, .int .i64 0, .int .i64 0, .int .i64 0, .int .i64 0]) (fun _ => by kernel_rfl) rfl (by kernel_rfl) rfl
instance Try.fv103_0 : FieldV Try.prog 103 0 4 0 := fieldV_of Try.underlying103 (by kernel_rfl)
instance Try.fv103_1 : FieldV Try.prog 103 1 3 1 := fieldV_of Try.underlying103 (by kernel_rfl)
instance Try.fv103_2 : FieldV Try.prog 103 2 30 2 := fieldV_of Try.underlying103 (by kernel_rfl)
instance Try.fv103_3 : FieldV Try.prog 103 3 102 3 := fieldV_of Try.underlying103 (by kernel_rfl)
instance Try.eqp103 : EqP Try.prog 103 [false, true, true, true, true, true, true, true, true, true, true] 3 := eqp_struct Try.underlying103 inferInstance rfl rfl (by kernel_rfl) ⟨by decide, rfl, [false], [true, true, true, true, true, true, true, true, true, true], 1, inferInstance, by decide, rfl, ⟨by decide, rfl, [true], [true, true, true, true, true, true, true, true, true], 1, inferInstance, by decide, rfl, ⟨by decide, rfl, [true], [true, true, true, true, true, true, true, true], 1, inferInstance, by decide, rfl, ⟨by decide, rfl, [true, true, true, true, true, true, true, true], [], 2, inferInstance, by decide, rfl, rfl⟩⟩⟩⟩
instance Try.eqg103 : EqG Try.prog 103 := ⟨by kernel_rfl⟩
instance Try.part104 : PartT Try.prog 104 (some 11) := part_agg inferInstance rfl
instance Try.bld104 : Bld Try.prog 104 [[.bool false], [.int .i64 0], [.int .u32 0], [.int .i64 0, .int .i64 0, .int .u32 0, .int .u32 0, .int .i64 0, .int .i64 0, .int .i64 0, .int .i64 0]] := bld_struct Try.underlying104 (z := .agg #[.bool false, .int .i64 0, .int .u32 0, .int .i64 0, .int .i64 0, .int .u32 0, .int .u32 0, .int .i64 0, .int .i64 0, .int .i64 0, .int .i64 0]) (fun _ => by kernel_rfl) rfl (by kernel_rfl) rfl
instance Try.fv104_0 : FieldV Try.prog 104 0 4 0 := fieldV_of Try.underlying104 (by kernel_rfl)
instance Try.fv104_1 : FieldV Try.prog 104 1 3 1 := fieldV_of Try.underlying104 (by kernel_rfl)
instance Try.fv104_2 : FieldV Try.prog 104 2 30 2 := fieldV_of Try.underlying104 (by kernel_rfl)
instance Try.fv104_3 : FieldV Try.prog 104 3 102 3 := fieldV_of Try.underlying104 (by kernel_rfl)
instance Try.eqp104 : EqP Try.prog 104 [false, true, true, true, true, true, true, true, true, true, true] 3 := eqp_struct Try.underlying104 inferInstance rfl rfl (by kernel_rfl) ⟨by decide, rfl, [false], [true, true, true, true, true, true, true, true, true, true], 1, inferInstance, by decide, rfl, ⟨by decide, rfl, [true], [true, true, true, true, true, true, true, true, true], 1, inferInstance, by decide, rfl, ⟨by decide, rfl, [true], [true, true, true, true, true, true, true, true], 1, inferInstance, by decide, rfl, ⟨by decide, rfl, [true, true, true, true, true, true, true, true], [], 2, inferInstance, by decide, rfl, rfl⟩⟩⟩⟩
instance Try.eqg104 : EqG Try.prog 104 := ⟨by kernel_rfl⟩
instance Try.part127 : PartT Try.prog 127 none := part_scalar inferInstance
instance Try.part128 : PartT Try.prog 128 (some 4) := part_agg inferInstance rfl
instance Try.bld128 : Bld Try.prog 128 [[.slice none 0 0], [.slice none 0 0], [.slice none 0 0], [.int .u32 0]] := bld_struct Try.underlying128 (z := .agg #[.slice none 0 0, .slice none 0 0, .slice none 0 0, .int .u32 0]) (fun _ => by kernel_rfl) rfl (by kernel_rfl) rfl
instance Try.fv128_0 : FieldV Try.prog 128 0 127 0 := fieldV_of Try.underlying128 (by kernel_rfl)
instance Try.fv128_1 : FieldV Try.prog 128 1 43 1 := fieldV_of Try.underlying128 (by kernel_rfl)
instance Try.fv128_2 : FieldV Try.prog 128 2 43 2 := fieldV_of Try.underlying128 (by kernel_rfl)
instance Try.fv128_3 : FieldV Try.prog 128 3 30 3 := fieldV_of Try.underlying128 (by kernel_rfl)
instance Try.part129 : PartT Try.prog 129 (some 4) := part_agg inferInstance rfl
instance Try.bld129 : Bld Try.prog 129 [[.slice none 0 0], [.slice none 0 0], [.slice none 0 0], [.int .u32 0]] := bld_struct Try.underlying129 (z := .agg #[.slice none 0 0, .slice none 0 0, .slice none 0 0, .int .u32 0]) (fun _ => by kernel_rfl) rfl (by kernel_rfl) rfl
instance Try.fv129_0 : FieldV Try.prog 129 0 127 0 := fieldV_of Try.underlying129 (by kernel_rfl)
instance Try.fv129_1 : FieldV Try.prog 129 1 43 1 := fieldV_of Try.underlying129 (by kernel_rfl)
instance Try.fv129_2 : FieldV Try.prog 129 2 43 2 := fieldV_of Try.underlying129 (by kernel_rfl)
instance Try.fv129_3 : FieldV Try.prog 129 3 30 3 := fieldV_of Try.underlying129 (by kernel_rfl)
instance Try.part132 : PartT Try.prog 132 (some 2) := part_agg inferInstance rfl
instance Try.bld132 : Bld Try.prog 132 [[.int .u32 0], [.int .u32 0]] := bld_array (m := 1) Try.underlying132 (z := .agg #[.int .u32 0, .int .u32 0]) (fun _ => by kernel_rfl) rfl (by kernel_rfl) (by decide) rfl
instance Try.part133 : PartT Try.prog 133 none := part_scalar inferInstance
instance Try.part136 : PartT Try.prog 136 none := part_scalar inferInstance
instance Try.part137 : PartT Try.prog 137 (some 1) := part_agg inferInstance rfl
instance Try.bld137 : Bld Try.prog 137 [[.slice none 0 0]] := bld_struct Try.underlying137 (z := .agg #[.slice none 0 0]) (fun _ => by kernel_rfl) rfl (by kernel_rfl) rfl
instance Try.fv137_0 : FieldV Try.prog 137 0 136 0 := fieldV_of Try.underlying137 (by kernel_rfl)
instance Try.part138 : PartT Try.prog 138 (some 1) := part_agg inferInstance rfl
instance Try.bld138 : Bld Try.prog 138 [[.slice none 0 0]] := bld_struct Try.underlying138 (z := .agg #[.slice none 0 0]) (fun _ => by kernel_rfl) rfl (by kernel_rfl) rfl
instance Try.fv138_0 : FieldV Try.prog 138 0 136 0 := fieldV_of Try.underlying138 (by kernel_rfl)
instance Try.part140 : PartT Try.prog 140 (some 5) := part_agg inferInstance rfl
instance Try.bld140 : Bld Try.prog 140 [[.int .u32 0], [.int .i64 0], [.int .i64 0, .int .i64 0], [.bool false]] := bld_struct Try.underlying140 (z := .agg #[.int .u32 0, .int .i64 0, .int .i64 0, .int .i64 0, .bool false]) (fun _ => by kernel_rfl) rfl (by kernel_rfl) rfl
instance Try.fv140_0 : FieldV Try.prog 140 0 30 0 := fieldV_of Try.underlying140 (by kernel_rfl)
instance Try.fv140_1 : FieldV Try.prog 140 1 3 1 := fieldV_of Try.underlying140 (by kernel_rfl)
instance Try.fv140_2 : FieldV Try.prog 140 2 72 2 := fieldV_of Try.underlying140 (by kernel_rfl)
instance Try.fv140_3 : FieldV Try.prog 140 3 4 4 := fieldV_of Try.underlying140 (by kernel_rfl)
instance Try.eqp140 : EqP Try.prog 140 [true, true, true, true, false] 3 := eqp_struct Try.underlying140 inferInstance rfl rfl (by kernel_rfl) ⟨by decide, rfl, [true], [true, true, true, false], 1, inferInstance, by decide, rfl, ⟨by decide, rfl, [true], [true, true, false], 1, inferInstance, by decide, rfl, ⟨by decide, rfl, [true, true], [false], 2, inferInstance, by decide, rfl, ⟨by decide, rfl, [false], [], 1, inferInstance, by decide, rfl, rfl⟩⟩⟩⟩
instance Try.eqg140 : EqG Try.prog 140 := ⟨by kernel_rfl⟩
instance Try.part141 : PartT Try.prog 141 (some 5) := part_agg inferInstance rfl
instance Try.bld141 : Bld Try.prog 141 [[.int .u32 0], [.int .i64 0], [.int .i64 0, .int .i64 0], [.bool false]] := bld_struct Try.underlying141 (z := .agg #[.int .u32 0, .int .i64 0, .int .i64 0, .int .i64 0, .bool false]) (fun _ => by kernel_rfl) rfl (by kernel_rfl) rfl
instance Try.fv141_0 : FieldV Try.prog 141 0 30 0 := fieldV_of Try.underlying141 (by kernel_rfl)
instance Try.fv141_1 : FieldV Try.prog 141 1 3 1 := fieldV_of Try.underlying141 (by kernel_rfl)
instance Try.fv141_2 : FieldV Try.prog 141 2 72 2 := fieldV_of Try.underlying141 (by kernel_rfl)
instance Try.fv141_3 : FieldV Try.prog 141 3 4 4 := fieldV_of Try.underlying141 (by kernel_rfl)
instance Try.eqp141 : EqP Try.prog 141 [true, true, true, true, false] 3 := eqp_struct Try.underlying141 inferInstance rfl rfl (by kernel_rfl) ⟨by decide, rfl, [true], [true, true, true, false], 1, inferInstance, by decide, rfl, ⟨by decide, rfl, [true], [true, true, false], 1, inferInstance, by decide, rfl, ⟨by decide, rfl, [true, true], [false], 2, inferInstance, by decide, rfl, ⟨by decide, rfl, [false], [], 1, inferInstance, by decide, rfl, rfl⟩⟩⟩⟩
instance Try.eqg141 : EqG Try.prog 141 := ⟨by kernel_rfl⟩
instance Try.part145 : PartT Try.prog 145 none := part_scalar inferInstance
instance Try.eqp145 : EqP Try.prog 145 [true] 1 := eqp_int Try.underlying145 inferInstance
instance Try.part149 : PartT Try.prog 149 none := part_scalar inferInstance
instance Try.part150 : PartT Try.prog 150 (some 3) := part_agg inferInstance rfl
instance Try.bld150 : Bld Try.prog 150 [[.pointer none], [.slice none 0 0], [.int .i64 0]] := bld_struct Try.underlying150 (z := .agg #[.pointer none, .slice none 0 0, .int .i64 0]) (fun _ => by kernel_rfl) rfl (by kernel_rfl) rfl
instance Try.fv150_0 : FieldV Try.prog 150 0 25 0 := fieldV_of Try.underlying150 (by kernel_rfl)
instance Try.fv150_1 : FieldV Try.prog 150 1 22 1 := fieldV_of Try.underlying150 (by kernel_rfl)
instance Try.fv150_2 : FieldV Try.prog 150 2 3 2 := fieldV_of Try.underlying150 (by kernel_rfl)
instance Try.part151 : PartT Try.prog 151 (some 3) := part_agg inferInstance rfl
instance Try.bld151 : Bld Try.prog 151 [[.pointer none], [.slice none 0 0], [.int .i64 0]] := bld_struct Try.underlying151 (z := .agg #[.pointer none, .slice none 0 0, .int .i64 0]) (fun _ => by kernel_rfl) rfl (by kernel_rfl) rfl
instance Try.fv151_0 : FieldV Try.prog 151 0 25 0 := fieldV_of Try.underlying151 (by kernel_rfl)
instance Try.fv151_1 : FieldV Try.prog 151 1 22 1 := fieldV_of Try.underlying151 (by kernel_rfl)
instance Try.fv151_2 : FieldV Try.prog 151 2 3 2 := fieldV_of Try.underlying151 (by kernel_rfl)
instance Try.part153 : PartT Try.prog 153 none := part_scalar inferInstance
instance Try.part170 : PartT Try.prog 170 none := part_scalar inferInstance
instance Try.part173 : PartT Try.prog 173 (some 11) := part_agg inferInstance rfl
instance Try.bld173 : Bld Try.prog 173 [[.int .u64 0], [.int .u64 0], [.int .u32 0], [.int .u8 0], [.int .u8 0], [.int .u8 0], [.int .u8 0], [.nilFunc], [.pointer none], [.int .i32 0], [.int .i32 0]] := bld_struct Try.underlying173 (z := .agg #[.int .u64 0, .int .u64 0, .int .u32 0, .int .u8 0, .int .u8 0, .int .u8 0, .int .u8 0, .nilFunc, .pointer none, .int .i32 0, .int .i32 0]) (fun _ => by kernel_rfl) rfl (by kernel_rfl) rfl
instance Try.fv173_0 : FieldV Try.prog 173 0 12 0 := fieldV_of Try.underlying173 (by kernel_rfl)
instance Try.fv173_1 : FieldV Try.prog 173 1 12 1 := fieldV_of Try.underlying173 (by kernel_rfl)
instance Try.fv173_2 : FieldV Try.prog 173 2 30 2 := fieldV_of Try.underlying173 (by kernel_rfl)
instance Try.fv173_3 : FieldV Try.prog 173 3 167 3 := fieldV_of Try.underlying173 (by kernel_rfl)
instance Try.fv173_4 : FieldV Try.prog 173 4 5 4 := fieldV_of Try.underlying173 (by kernel_rfl)
instance Try.fv173_5 : FieldV Try.prog 173 5 5 5 := fieldV_of Try.underlying173 (by kernel_rfl)
instance Try.fv173_6 : FieldV Try.prog 173 6 168 6 := fieldV_of Try.underlying173 (by kernel_rfl)
instance Try.fv173_7 : FieldV Try.prog 173 7 169 7 := fieldV_of Try.underlying173 (by kernel_rfl)
instance Try.fv173_8 : FieldV Try.prog 173 8 170 8 := fieldV_of Try.underlying173 (by kernel_rfl)
instance Try.fv173_9 : FieldV Try.prog 173 9 171 9 := fieldV_of Try.underlying173 (by kernel_rfl)
instance Try.fv173_10 : FieldV Try.prog 173 10 172 10 := fieldV_of Try.underlying173 (by kernel_rfl)
instance Try.ent3 : Enters Try.prog 3 := enters_of Try.func3 rfl (by kernel_rfl)
instance Try.ent4 : Enters Try.prog 4 := enters_of Try.func4 rfl (by kernel_rfl)
instance Try.ent5 : Enters Try.prog 5 := enters_of Try.func5 rfl (by kernel_rfl)
instance Try.ent6 : Enters Try.prog 6 := enters_of Try.func6 rfl (by kernel_rfl)
instance Try.ent7 : Enters Try.prog 7 := enters_of Try.func7 rfl (by kernel_rfl)
instance Try.ent8 : Enters Try.prog 8 := enters_of Try.func8 rfl (by kernel_rfl)
instance Try.ent9 : Enters Try.prog 9 := enters_of Try.func9 rfl (by kernel_rfl)
instance Try.ent10 : Enters Try.prog 10 := enters_of Try.func10 rfl (by kernel_rfl)
instance Try.ent11 : Enters Try.prog 11 := enters_of Try.func11 rfl (by kernel_rfl)
instance Try.ent12 : Enters Try.prog 12 := enters_of Try.func12 rfl (by kernel_rfl)
instance Try.ent13 : Enters Try.prog 13 := enters_of Try.func13 rfl (by kernel_rfl)
instance Try.ent14 : Enters Try.prog 14 := enters_of Try.func14 rfl (by kernel_rfl)
instance Try.ent15 : Enters Try.prog 15 := enters_of Try.func15 rfl (by kernel_rfl)
instance Try.ent16 : Enters Try.prog 16 := enters_of Try.func16 rfl (by kernel_rfl)
instance Try.ent17 : Enters Try.prog 17 := enters_of Try.func17 rfl (by kernel_rfl)
instance Try.ent18 : Enters Try.prog 18 := enters_of Try.func18 rfl (by kernel_rfl)
instance Try.ent19 : Enters Try.prog 19 := enters_of Try.func19 rfl (by kernel_rfl)
instance Try.ent20 : Enters Try.prog 20 := enters_of Try.func20 rfl (by kernel_rfl)
instance Try.ent21 : Enters Try.prog 21 := enters_of Try.func21 rfl (by kernel_rfl)
instance Try.ent22 : Enters Try.prog 22 := enters_of Try.func22 rfl (by kernel_rfl)
instance Try.ent23 : Enters Try.prog 23 := enters_of Try.func23 rfl (by kernel_rfl)
instance Try.ent24 : Enters Try.prog 24 := enters_of Try.func24 rfl (by kernel_rfl)
instance Try.ent25 : Enters Try.prog 25 := enters_of Try.func25 rfl (by kernel_rfl)
instance Try.ent26 : Enters Try.prog 26 := enters_of Try.func26 rfl (by kernel_rfl)
instance Try.ent27 : Enters Try.prog 27 := enters_of Try.func27 rfl (by kernel_rfl)
instance Try.ent28 : Enters Try.prog 28 := enters_of Try.func28 rfl (by kernel_rfl)
instance Try.ent29 : Enters Try.prog 29 := enters_of Try.func29 rfl (by kernel_rfl)
instance Try.ent30 : Enters Try.prog 30 := enters_of Try.func30 rfl (by kernel_rfl)
instance Try.ent31 : Enters Try.prog 31 := enters_of Try.func31 rfl (by kernel_rfl)
instance Try.ent32 : Enters Try.prog 32 := enters_of Try.func32 rfl (by kernel_rfl)
instance Try.ent33 : Enters Try.prog 33 := enters_of Try.func33 rfl (by kernel_rfl)
instance Try.ent34 : Enters Try.prog 34 := enters_of Try.func34 rfl (by kernel_rfl)
instance Try.ent35 : Enters Try.prog 35 := enters_of Try.func35 rfl (by kernel_rfl)
instance Try.ent36 : Enters Try.prog 36 := enters_of Try.func36 rfl (by kernel_rfl)
instance Try.ent37 : Enters Try.prog 37 := enters_of Try.func37 rfl (by kernel_rfl)
instance Try.ent38 : Enters Try.prog 38 := enters_of Try.func38 rfl (by kernel_rfl)
instance Try.ent39 : Enters Try.prog 39 := enters_of Try.func39 rfl (by kernel_rfl)
instance Try.ent40 : Enters Try.prog 40 := enters_of Try.func40 rfl (by kernel_rfl)
instance Try.ent41 : Enters Try.prog 41 := enters_of Try.func41 rfl (by kernel_rfl)
instance Try.ent42 : Enters Try.prog 42 := enters_of Try.func42 rfl (by kernel_rfl)
instance Try.ent43 : Enters Try.prog 43 := enters_of Try.func43 rfl (by kernel_rfl)
instance Try.ent44 : Enters Try.prog 44 := enters_of Try.func44 rfl (by kernel_rfl)
instance Try.ent45 : Enters Try.prog 45 := enters_of Try.func45 rfl (by kernel_rfl)
instance Try.ent46 : Enters Try.prog 46 := enters_of Try.func46 rfl (by kernel_rfl)
instance Try.ent47 : Enters Try.prog 47 := enters_of Try.func47 rfl (by kernel_rfl)
instance Try.ent48 : Enters Try.prog 48 := enters_of Try.func48 rfl (by kernel_rfl)
instance Try.ent49 : Enters Try.prog 49 := enters_of Try.func49 rfl (by kernel_rfl)
instance Try.ent50 : Enters Try.prog 50 := enters_of Try.func50 rfl (by kernel_rfl)
instance Try.ent51 : Enters Try.prog 51 := enters_of Try.func51 rfl (by kernel_rfl)
instance Try.ent52 : Enters Try.prog 52 := enters_of Try.func52 rfl (by kernel_rfl)
instance Try.ent53 : Enters Try.prog 53 := enters_of Try.func53 rfl (by kernel_rfl)
instance Try.ent54 : Enters Try.prog 54 := enters_of Try.func54 rfl (by kernel_rfl)
instance Try.ent55 : Enters Try.prog 55 := enters_of Try.func55 rfl (by kernel_rfl)
instance Try.ent56 : Enters Try.prog 56 := enters_of Try.func56 rfl (by kernel_rfl)
instance Try.ent57 : Enters Try.prog 57 := enters_of Try.func57 rfl (by kernel_rfl)
instance Try.ent58 : Enters Try.prog 58 := enters_of Try.func58 rfl (by kernel_rfl)
instance Try.ent59 : Enters Try.prog 59 := enters_of Try.func59 rfl (by kernel_rfl)
instance Try.ent60 : Enters Try.prog 60 := enters_of Try.func60 rfl (by kernel_rfl)
instance Try.ent61 : Enters Try.prog 61 := enters_of Try.func61 rfl (by kernel_rfl)
instance Try.ent62 : Enters Try.prog 62 := enters_of Try.func62 rfl (by kernel_rfl)
instance Try.ent63 : Enters Try.prog 63 := enters_of Try.func63 rfl (by kernel_rfl)
instance Try.ent64 : Enters Try.prog 64 := enters_of Try.func64 rfl (by kernel_rfl)
instance Try.ent65 : Enters Try.prog 65 := enters_of Try.func65 rfl (by kernel_rfl)
instance Try.ent66 : Enters Try.prog 66 := enters_of Try.func66 rfl (by kernel_rfl)
instance Try.ent67 : Enters Try.prog 67 := enters_of Try.func67 rfl (by kernel_rfl)
instance Try.ent68 : Enters Try.prog 68 := enters_of Try.func68 rfl (by kernel_rfl)
instance Try.ent69 : Enters Try.prog 69 := enters_of Try.func69 rfl (by kernel_rfl)
instance Try.ent70 : Enters Try.prog 70 := enters_of Try.func70 rfl (by kernel_rfl)
instance Try.ent71 : Enters Try.prog 71 := enters_of Try.func71 rfl (by kernel_rfl)
instance Try.ent72 : Enters Try.prog 72 := enters_of Try.func72 rfl (by kernel_rfl)
instance Try.ent73 : Enters Try.prog 73 := enters_of Try.func73 rfl (by kernel_rfl)
instance Try.ent74 : Enters Try.prog 74 := enters_of Try.func74 rfl (by kernel_rfl)
instance Try.ent75 : Enters Try.prog 75 := enters_of Try.func75 rfl (by kernel_rfl)
instance Try.ent76 : Enters Try.prog 76 := enters_of Try.func76 rfl (by kernel_rfl)
instance Try.ent77 : Enters Try.prog 77 := enters_of Try.func77 rfl (by kernel_rfl)
instance Try.ent78 : Enters Try.prog 78 := enters_of Try.func78 rfl (by kernel_rfl)
instance Try.ent79 : Enters Try.prog 79 := enters_of Try.func79 rfl (by kernel_rfl)
instance Try.ent80 : Enters Try.prog 80 := enters_of Try.func80 rfl (by kernel_rfl)
instance Try.ent81 : Enters Try.prog 81 := enters_of Try.func81 rfl (by kernel_rfl)
instance Try.ent82 : Enters Try.prog 82 := enters_of Try.func82 rfl (by kernel_rfl)
instance Try.ent83 : Enters Try.prog 83 := enters_of Try.func83 rfl (by kernel_rfl)
instance Try.ent84 : Enters Try.prog 84 := enters_of Try.func84 rfl (by kernel_rfl)
instance Try.ent85 : Enters Try.prog 85 := enters_of Try.func85 rfl (by kernel_rfl)
instance Try.ent86 : Enters Try.prog 86 := enters_of Try.func86 rfl (by kernel_rfl)
instance Try.ent87 : Enters Try.prog 87 := enters_of Try.func87 rfl (by kernel_rfl)
instance Try.ent88 : Enters Try.prog 88 := enters_of Try.func88 rfl (by kernel_rfl)
instance Try.ent89 : Enters Try.prog 89 := enters_of Try.func89 rfl (by kernel_rfl)
instance Try.ent90 : Enters Try.prog 90 := enters_of Try.func90 rfl (by kernel_rfl)
instance Try.ent91 : Enters Try.prog 91 := enters_of Try.func91 rfl (by kernel_rfl)
instance Try.ent92 : Enters Try.prog 92 := enters_of Try.func92 rfl (by kernel_rfl)
instance Try.ent93 : Enters Try.prog 93 := enters_of Try.func93 rfl (by kernel_rfl)
instance Try.ent94 : Enters Try.prog 94 := enters_of Try.func94 rfl (by kernel_rfl)
instance Try.ent95 : Enters Try.prog 95 := enters_of Try.func95 rfl (by kernel_rfl)
instance Try.ent96 : Enters Try.prog 96 := enters_of Try.func96 rfl (by kernel_rfl)
instance Try.ent97 : Enters Try.prog 97 := enters_of Try.func97 rfl (by kernel_rfl)
instance Try.ent98 : Enters Try.prog 98 := enters_of Try.func98 rfl (by kernel_rfl)
instance Try.ent99 : Enters Try.prog 99 := enters_of Try.func99 rfl (by kernel_rfl)
instance Try.ent100 : Enters Try.prog 100 := enters_of Try.func100 rfl (by kernel_rfl)
instance Try.ent101 : Enters Try.prog 101 := enters_of Try.func101 rfl (by kernel_rfl)
instance Try.ent102 : Enters Try.prog 102 := enters_of Try.func102 rfl (by kernel_rfl)
instance Try.ent103 : Enters Try.prog 103 := enters_of Try.func103 rfl (by kernel_rfl)
instance Try.ent104 : Enters Try.prog 104 := enters_of Try.func104 rfl (by kernel_rfl)
instance Try.ent105 : Enters Try.prog 105 := enters_of Try.func105 rfl (by kernel_rfl)
instance Try.ent106 : Enters Try.prog 106 := enters_of Try.func106 rfl (by kernel_rfl)
instance Try.ent107 : Enters Try.prog 107 := enters_of Try.func107 rfl (by kernel_rfl)
instance Try.ent108 : Enters Try.prog 108 := enters_of Try.func108 rfl (by kernel_rfl)
instance Try.ent109 : Enters Try.prog 109 := enters_of Try.func109 rfl (by kernel_rfl)
instance Try.ent110 : Enters Try.prog 110 := enters_of Try.func110 rfl (by kernel_rfl)
end Go.Proofs

namespace Go.Proofs.Yteghhalnpdikoaa
open Go.Vc Go.ChangeShapes Go.WideShapes Go.ChangeAt Go.RowKit

theorem trodAll_stays {H : Type} {enc : TypeId × Value → H} {P : Program} (hl : laidOutB P = true) {W W' : World} (hx : Ext W W') : ∀ (ts : List TypeId) (vs : List Value) (ds : List (DataW H)) (ps : List MemPlace),
    (∀ t ∈ ts, P.readableRec t = true ∧ t < P.types.size) → DataW.TrodAll enc P W 0 (fun _ => true) true ts vs ds ps → (∀ x ∈ ps, x.block < W.heap.size) →
    DataW.TrodAll enc P W' 0 (fun b => decide (b < W.heap.size)) true ts vs ds ps
  | [], [], [], ps, _, h, _ => h
  | t :: ts, v :: vs, d :: ds, ps, ht, h, hp => by
    obtain ⟨p, q, h1, h2, rfl⟩ := h
    refine ⟨p, q, Below.trod hl (ht t (by simp)).1 (ht t (by simp)).2 h1 hx.below (fun x hx => hp x (by simp [hx])), ?_, rfl⟩
    exact trodAll_stays hl hx ts vs ds q (fun t' h' => ht t' (by simp [h'])) h2 (fun x hx => hp x (by simp [hx]))
  | [], [], _ :: _, _, _, h, _ => h.elim
  | [], _ :: _, _, _, _, h, _ => by cases h
  | _ :: _, [], _, _, _, h, _ => by cases h
  | _ :: _, _ :: _, [], _, _, h, _ => by cases h

def readB (P : Program) (ts : List TypeId) : Bool := ts.all fun t => P.readableRec t && decide (t < P.types.size)

theorem post_law {H : Type} {enc : TypeId × Value → H} {P : Program} {f : Func} {s : ChangeSpec} {W W' : World} {args : Array Value} {ds gs : List (DataW H)} {before : List MemPlace} {tb : TypeId}
    (hW : DataW.Whole enc P f.params.toList s.vars false W args.toList ds gs before) (hv : s.vars = []) (hl : laidOutB P = true) (hts : readB P f.params.toList = true)
    (hfn : s.fn H (ds ++ gs) = { results := [.lit (.bool true)], args := ds }) (hr : f.resultTypes = #[tb]) (hb : P.underlying tb = some .bool) (hx : Ext W W') :
    s.post enc P f false true false false W args (.bool true) W' := by
  have hlt := hW.lt
  have hW0 := hW
  obtain ⟨p, q, hA, hV, hps, hfz, hnd⟩ := hW
  rw [hv] at hV
  have hq : q = [] ∧ gs = [] := by
    cases gs with
    | nil => exact ⟨hV, rfl⟩
    | cons g gs => exact hV.elim
  obtain ⟨rfl, rfl⟩ := hq
  rw [List.append_nil] at hps
  subst hps
  refine ⟨ds, [], before, [], before, [], hW0, ?_, ?_, ?_, World.keptBut_mono (fun p hp => ⟨hp, Or.inr (Or.inl hp)⟩) (hx.below.frame (· ∈ before)), fun h => by cases h⟩
  · rw [hfn, hr]
    exact trodAll_mk1 (shut_bool hb _)
  · rw [hfn]
    refine trodAll_stays hl hx _ _ _ _ (fun t ht => ?_) hA hlt
    have := List.all_eq_true.1 hts t ht
    simpa using this
  · rw [hfn, hv]; rfl

/-- What the walks hand over. -/
def Done (w : World) (e : Ending) (w' : World) : Prop := e = .returned (.bool true) ∧ Ext w w'

theorem done_of {P : Program} {f : FuncId} {args : Array Value} {w : World} (h : Calls P f args w (Ret fun v w' => v = .bool true ∧ Ext w w')) : Calls P f args w (Done w) :=
  h.mono (by rintro e w' ⟨v, rfl, rfl, hx⟩; exact ⟨rfl, hx⟩)

end Go.Proofs.Yteghhalnpdikoaa

namespace Go.Vc

abbrev u8 (x : BitVec 8) : Value := .int .u8 (x.toNat : Int)
abbrev u32 (x : BitVec 32) : Value := .int .u32 (x.toNat : Int)
abbrev u64 (x : BitVec 64) : Value := .int .u64 (x.toNat : Int)

theorem wrap_nat {k : IntKind} {m : Nat} (hk : k.signed = false) (hm : m < 2 ^ k.bits) : k.wrap (m : Int) = m := by
  unfold IntKind.wrap
  rw [hk]
  simp only [Bool.false_and, Bool.false_eq_true, if_false]
  exact Int.emod_eq_of_lt (by omega) (by exact_mod_cast hm)

theorem wrap8 (x : BitVec 8) : IntKind.u8.wrap (x.toNat : Int) = (x.toNat : Int) := wrap_nat (k := .u8) rfl x.isLt
theorem wrap32 (x : BitVec 32) : IntKind.u32.wrap (x.toNat : Int) = (x.toNat : Int) := wrap_nat (k := .u32) rfl x.isLt
theorem wrap64 (x : BitVec 64) : IntKind.u64.wrap (x.toNat : Int) = (x.toNat : Int) := wrap_nat (k := .u64) rfl x.isLt

theorem ofInt_toNat {n : Nat} (x : BitVec n) : BitVec.ofInt n (x.toNat : Int) = x := by
  apply BitVec.eq_of_toNat_eq
  simp

section
variable {P : Program} {st : St} {x y : Operand} {t ty : TypeId}

theorem pr_xor32 {a b : BitVec 32} (hx : evS st x = some (u32 a)) (hy : evS st y = some (u32 b)) : PureRun P st (.binOp .xor t x y ty) (u32 (a ^^^ b)) := by
  have := pr_basic (P := P) (st := st) (op := .binOp .xor t x y ty) (v := u32 (a ^^^ b)) (by
    simp only [pureOp, hx, hy, sameKind, binI]
    show some (Value.int _ (IntKind.u32.wrap ((BitVec.ofInt 32 _ ^^^ BitVec.ofInt 32 _).toNat : Int))) = _
    rw [ofInt_toNat, ofInt_toNat, wrap32])
  exact this

theorem pr_xor8 {a b : BitVec 8} (hx : evS st x = some (u8 a)) (hy : evS st y = some (u8 b)) : PureRun P st (.binOp .xor t x y ty) (u8 (a ^^^ b)) := by
  have := pr_basic (P := P) (st := st) (op := .binOp .xor t x y ty) (v := u8 (a ^^^ b)) (by
    simp only [pureOp, hx, hy, sameKind, binI]
    show some (Value.int _ (IntKind.u8.wrap ((BitVec.ofInt 8 _ ^^^ BitVec.ofInt 8 _).toNat : Int))) = _
    rw [ofInt_toNat, ofInt_toNat, wrap8])
  exact this

theorem pr_xor32c {a : BitVec 32} {c : Int} (b : BitVec 32) (hx : evS st x = some (u32 a)) (hy : evS st y = some (.int .u32 c)) (hc : c = (b.toNat : Int)) : PureRun P st (.binOp .xor t x y ty) (u32 (a ^^^ b)) :=
  pr_xor32 hx (by rw [hy, hc])

theorem pr_and32c {a : BitVec 32} {c : Int} (b : BitVec 32) (hx : evS st x = some (u32 a)) (hy : evS st y = some (.int .u32 c)) (hc : c = (b.toNat : Int)) : PureRun P st (.binOp .and t x y ty) (u32 (a &&& b)) := by
  subst hc
  have := pr_basic (P := P) (st := st) (op := .binOp .and t x y ty) (v := u32 (a &&& b)) (by
    simp only [pureOp, hx, hy, sameKind, binI]
    show some (Value.int _ (IntKind.u32.wrap ((BitVec.ofInt 32 _ &&& BitVec.ofInt 32 _).toNat : Int))) = _
    rw [ofInt_toNat, ofInt_toNat, wrap32])
  exact this

theorem pr_not32 {a : BitVec 32} (hx : evS st x = some (u32 a)) : PureRun P st (.unOp .xor t x) (u32 (~~~a)) := by
  unfold PureRun
  intro n ac w ha d to p af
  have h : IntKind.u32.wrap ((BitVec.ofInt 32 (IntKind.u32.max) ^^^ BitVec.ofInt 32 (a.toNat : Int)).toNat : Int) = ((~~~a).toNat : Int) := by
    rw [ofInt_toNat, show BitVec.ofInt 32 IntKind.u32.max = BitVec.allOnes 32 from by decide, BitVec.allOnes_xor, wrap32]
  have hs : IntKind.u32.signed = false := rfl
  simp only [execOp, ha.ev hx, Op.unary, Op.intBits, hs]
  simp only [Bool.false_eq_true, if_false, Sem.run_bind, Sem.run_pure, Result.andThen_ok]
  exact congrArg (fun z => Result.ok (Next.value (Value.int .u32 z)) w) h

theorem pr_shr32 {a : BitVec 32} {m : Nat} {k : IntKind} {c : Int} (hx : evS st x = some (u32 a)) (hy : evS st y = some (.int k c)) (hc : c = (m : Int)) (hm : m ≤ 32) : PureRun P st (.binOp .shr t x y ty) (u32 (a >>> m)) := by
  have h := pr_shr (P := P) (tx := t) (ty := ty) hx hy hc hm
  have e : ((a.toNat : Int).fdiv (2 ^ m)) = ((a >>> m).toNat : Int) := by
    rw [BitVec.toNat_ushiftRight, Nat.shiftRight_eq_div_pow, Int.fdiv_eq_ediv_of_nonneg _ (by exact_mod_cast Nat.zero_le _)]
    push_cast; rfl
  rwa [e] at h

theorem pr_shr64 {a : BitVec 64} {m : Nat} {k : IntKind} {c : Int} (hx : evS st x = some (u64 a)) (hy : evS st y = some (.int k c)) (hc : c = (m : Int)) (hm : m ≤ 64) : PureRun P st (.binOp .shr t x y ty) (u64 (a >>> m)) := by
  have h := pr_shr (P := P) (tx := t) (ty := ty) hx hy hc hm
  have e : ((a.toNat : Int).fdiv (2 ^ m)) = ((a >>> m).toNat : Int) := by
    rw [BitVec.toNat_ushiftRight, Nat.shiftRight_eq_div_pow, Int.fdiv_eq_ediv_of_nonneg _ (by exact_mod_cast Nat.zero_le _)]
    push_cast; rfl
  rwa [e] at h

theorem pr_conv32_8 {t1 t2 : TypeId} {d1 : TypeDesc} [UTy P t1 d1] [UTy P t2 (.int .u8)] {a : BitVec 32} (hx : evS st x = some (u32 a)) : PureRun P st (.convert t1 t2 x) (u8 (a.setWidth 8)) := by
  have h := pr_conv (P := P) (t1 := t1) (t2 := t2) (k2 := .u8) hx
  have e : IntKind.u8.wrap (a.toNat : Int) = ((a.setWidth 8).toNat : Int) := by
    rw [BitVec.toNat_setWidth]
    simp [IntKind.wrap, IntKind.bits, IntKind.signed]
  rwa [e] at h

theorem pr_conv64_8 {t1 t2 : TypeId} {d1 : TypeDesc} [UTy P t1 d1] [UTy P t2 (.int .u8)] {a : BitVec 64} (hx : evS st x = some (u64 a)) : PureRun P st (.convert t1 t2 x) (u8 (a.setWidth 8)) := by
  have h := pr_conv (P := P) (t1 := t1) (t2 := t2) (k2 := .u8) hx
  have e : IntKind.u8.wrap (a.toNat : Int) = ((a.setWidth 8).toNat : Int) := by
    rw [BitVec.toNat_setWidth]
    simp [IntKind.wrap, IntKind.bits, IntKind.signed]
  rwa [e] at h

theorem pr_conv8_32 {t1 t2 : TypeId} {d1 : TypeDesc} [UTy P t1 d1] [UTy P t2 (.int .u32)] {a : BitVec 8} (hx : evS st x = some (u8 a)) : PureRun P st (.convert t1 t2 x) (u32 (a.setWidth 32)) := by
  have h := pr_conv (P := P) (t1 := t1) (t2 := t2) (k2 := .u32) hx
  have e : IntKind.u32.wrap (a.toNat : Int) = ((a.setWidth 32).toNat : Int) := by
    have := a.isLt
    rw [BitVec.toNat_setWidth, wrap_nat (k := .u32) rfl (by show _ < 2 ^ 32; omega)]
    omega
  rwa [e] at h

end

/-! ### Slices that are read -/

/-- From the address 'sa' on lie the cells 'cs'. -/
def RdC (w : World) (sa : Option Addr) (cs : List Value) : Prop :=
  ∀ j u, cs[j]? = some u → ∃ b o, sa = some ⟨b, o, none⟩ ∧ w.cell? ⟨b, o + j, none⟩ = some u

/-- 'v' is a slice of bytes. -/
def By (w : World) (v : Value) (l : List (BitVec 8)) : Prop := ∃ sa cap, v = .slice sa l.length cap ∧ l.length ≤ cap ∧ RdC w sa (l.map u8)

theorem RdC.fr {S : Nat → Prop} {w w' : World} {sa : Option Addr} {cs : List Value} (h : RdC w sa cs) (f : Fr S w w') (hS : ∀ b o, sa = some ⟨b, o, none⟩ → ¬ S b) : RdC w' sa cs := by
  intro j u hj
  obtain ⟨b, o, e, hc⟩ := h j u hj
  exact ⟨b, o, e, f.cell hc (hS b o e)⟩
theorem RdC.ext {w w' : World} {sa : Option Addr} {cs : List Value} (h : RdC w sa cs) (f : Ext w w') : RdC w' sa cs := h.fr f (fun _ _ _ => id)
theorem By.ext {w w' : World} {v : Value} {l : List (BitVec 8)} (h : By w v l) (f : Ext w w') : By w' v l := by
  obtain ⟨sa, cap, e, hc, hr⟩ := h
  exact ⟨sa, cap, e, hc, hr.ext f⟩
theorem By.nil (w : World) : By w (.slice none 0 0) [] := ⟨none, 0, rfl, Nat.le_refl _, fun j u h => by simp at h⟩

theorem RdC.get {w : World} {sa : Option Addr} {l : List (BitVec 8)} (h : RdC w sa (l.map u8)) {j : Nat} (hj : j < l.length) : ∃ b o, sa = some ⟨b, o, none⟩ ∧ w.cell? ⟨b, o + j, none⟩ = some (u8 l[j]) :=
  h j _ (by simp [hj])

end Go.Vc

namespace Go.Vc

/-- The slice 'v' owns the elements 'xs' (cells, 'm' an element), in a block from 'lo' on. -/
def Own (w : World) (lo : Nat) (e : TypeId) (m : Nat) (v : Value) (n : Nat) (xs : List Value) : Prop := w.ownsRow lo e m v n xs

theorem Own.fr {w w' : World} {S : Nat → Prop} {lo : Nat} {e : TypeId} {m n : Nat} {v : Value} {xs : List Value} (h : Own w lo e m v n xs) (f : Fr S w w') (hS : ∀ b, lo ≤ b → ¬ S b) : Own w' lo e m v n xs := by
  refine ⟨h.1, ?_⟩
  rcases h.2 with h2 | ⟨g, cap, cur, hv, hg, hh, r⟩
  · exact Or.inl h2
  · exact Or.inr ⟨g, cap, cur, hv, hg, (f.block g (Array.getElem?_eq_some_iff.1 hh).1 (hS g hg)).trans hh, r⟩
theorem Own.ext {w w' : World} {lo : Nat} {e : TypeId} {m n : Nat} {v : Value} {xs : List Value} (h : Own w lo e m v n xs) (f : Ext w w') : Own w' lo e m v n xs := h.fr f (fun _ _ => id)
theorem Own.nil (w : World) (lo : Nat) (e : TypeId) (m : Nat) : Own w lo e m (.slice none 0 0) 0 [] := World.ownsRow_nil w lo e m

theorem Own.slice {w : World} {lo : Nat} {e : TypeId} {m n : Nat} {v : Value} {xs : List Value} (h : Own w lo e m v n xs) : ∃ sa cap, v = .slice sa n cap ∧ n ≤ cap ∧ RdC w sa xs := by
  rcases h.2 with ⟨rfl, rfl⟩ | ⟨g, cap, cur, rfl, hg, hh, hn, hc, hs, ht⟩
  · have : xs = [] := List.eq_nil_of_length_eq_zero (by simpa using h.1)
    subst this
    exact ⟨none, 0, rfl, Nat.le_refl _, fun j u hj => by simp at hj⟩
  · refine ⟨_, cap, rfl, hn, fun j u hj => ⟨g, 0, rfl, ?_⟩⟩
    rw [← ht, List.getElem?_take] at hj
    split at hj
    · have : cur[j]? = some u := by simpa using hj
      simp [World.cell?, hh, this]
    · cases hj

/-- What an append leaves: new blocks, and writes to the row of its first operand. -/
theorem ext_grown {w0 w w' : World} {lo : Nat} {e : TypeId} {m n : Nat} {v : Value} {xs : List Value} (h0 : Ext w0 w) (hlo : w0.heap.size ≤ lo) (hown : Own w lo e m v n xs) (hg : w.grownBy w' v.ownBlock) : Ext w0 w' :=
  ⟨hg.os.trans h0.os, hg.tape.trans h0.tape, hg.output.trans h0.output, Nat.le_trans h0.size hg.size, fun b hb _ => by
    rw [hg.block b (Nat.lt_of_lt_of_le hb h0.size) (fun e => by have := (World.ownsRow.lt hown b e.symm).1; omega)]
    exact h0.block b hb id⟩

section
variable {P : Program} {n : Nat} {Q : Exit → Act → World → Prop} {k : List It} {st : St} {w : World}
variable {all : Array Oper} {rest : List Oper} {d : Nat} {t to e : TypeId} {p : String} {af : Array Edge} {x y : Operand} {m bytes : Nat} {D : Cls}

theorem run_appendR [he : Elem P t e m bytes] (hm : m ≠ 0) {lo q r : Nat} {v : Value} {xs news : List Value} {sa : Option Addr} {c : Nat}
    (hown : Own w lo e m v q xs) (hr : RdC w sa news) (hl : news.length = r * m) (h1 : ∀ u ∈ news, u.oneCell' = true) (h63 : q + r ≤ maxLen) (hb : (q + r) * bytes ≤ 140737488355328) (hlo : lo ≤ w.heap.size) :
    ∃ v' w', (Builtin.append_ #[t, t] to #[v, .slice sa r c]).run P w = .ok v' w' ∧ Own w' lo e m v' (q + r) (xs ++ news) ∧ w.grownBy w' v.ownBlock ∧ (v' = .slice none 0 0 ↔ v = .slice none 0 0 ∧ r = 0) := by
  obtain ⟨i, hi, hs, hby, z, hz, hzs⟩ := he.row
  cases sa with
  | some a =>
    refine run_append_own w lo t to e i z m bytes he.u hi hz hs hby hzs (by omega) v q xs hown a r c news hl ?_ h1 h63 hb hlo
    intro j u hj
    obtain ⟨b, o, ea, hc⟩ := hr j u hj
    simp only [Option.some.injEq] at ea
    subst ea
    rw [addr_add]; exact hc
  | none =>
    have hn : news = [] := by
      cases news with
      | nil => rfl
      | cons u l => obtain ⟨_, _, ea, _⟩ := hr 0 u rfl; cases ea
    subst hn
    have hr0 : r = 0 := by
      rcases Nat.eq_zero_or_pos r with h | h
      · exact h
      · have := Nat.mul_pos h (Nat.pos_of_ne_zero hm)
        simp at hl; omega
    subst hr0
    have hsz : (sizeOf e).run P w = .ok m w := by simp [sizeOf, typeInfo, hi, hs]
    obtain ⟨sb, cap, rfl, hcap, _⟩ := hown.slice
    refine ⟨.slice sb q cap, w, ?_, by simpa using hown, ⟨rfl, rfl, rfl, Nat.le_refl _, fun _ _ _ => rfl⟩, by simp⟩
    cases sb <;> simp [Builtin.append_, run_underlying he.u, hsz, Builtin.lenOf, hcap, Builtin.firstCells, storeCells]

/-- 'append(x, y...)': x is the call's own; y is read. -/
theorem go_append [he : Elem P t e m bytes] (hm : m ≠ 0) {lo q r c : Nat} {v : Value} {xs news : List Value} {sa : Option Addr}
    (hd : Nat.blt d n = true) (hx : evS st x = some v) (hy : evS st y = some (.slice sa r c)) (hown : Own w lo e m v q xs) (hr : RdC w sa news) (hl : news.length = r * m)
    (h1 : ∀ u ∈ news, u.oneCell' = true) (h63 : q + r ≤ maxLen) (hb : (q + r) * bytes ≤ 140737488355328) (hlo : lo ≤ w.heap.size)
    (h : ∀ v' w', Own w' lo e m v' (q + r) (xs ++ news) → w.grownBy w' v.ownBlock → (v' = .slice none 0 0 ↔ v = .slice none 0 0 ∧ r = 0) → Go P n Q (.ops all rest :: k) ((d, v') :: st) w') :
    Go P n Q (.ops all (⟨some d, .call { callee := .builtin .append, args := #[x, y], argTypes := #[t, t] }, to, p, af, none⟩ :: rest) :: k) st w := by
  obtain ⟨v', w', e1, e2, e3, e4⟩ := run_appendR (P := P) (t := t) (to := to) (c := c) hm hown hr hl h1 h63 hb hlo
  refine go_val hd (fun a ha => ?_) (h v' w' e2 e3 e4)
  simp [execOp, resolve, invoke, builtin, ha.ev hx, ha.ev hy, e1]

theorem gol_append [he : Elem P t e m bytes] (hm : m ≠ 0) {lo q r c : Nat} {v : Value} {xs news : List Value} {sa : Option Addr}
    (hd : Nat.blt d n = true) (hx : evS st x = some v) (hy : evS st y = some (.slice sa r c)) (hown : Own w lo e m v q xs) (hr : RdC w sa news) (hl : news.length = r * m)
    (h1 : ∀ u ∈ news, u.oneCell' = true) (h63 : q + r ≤ maxLen) (hb : (q + r) * bytes ≤ 140737488355328) (hlo : lo ≤ w.heap.size)
    (h : ∀ v' w', Own w' lo e m v' (q + r) (xs ++ news) → w.grownBy w' v.ownBlock → (v' = .slice none 0 0 ↔ v = .slice none 0 0 ∧ r = 0) → D.aft rest w' ∧ Go P n Q (.lex all D rest :: k) ((d, v') :: st) w') :
    Go P n Q (.lex all D (⟨some d, .call { callee := .builtin .append, args := #[x, y], argTypes := #[t, t] }, to, p, af, none⟩ :: rest) :: k) st w := by
  obtain ⟨v', w', e1, e2, e3, e4⟩ := run_appendR (P := P) (t := t) (to := to) (c := c) hm hown hr hl h1 h63 hb hlo
  refine gol_run rfl hd (fun a ha => ?_) (h v' w' e2 e3 e4).1 (h v' w' e2 e3 e4).2
  simp [execOp, resolve, invoke, builtin, ha.ev hx, ha.ev hy, e1]

/-- 'make([]T, 0, c)' -/
theorem go_make0 [he : Elem P t e m bytes] {c : Nat} {i j : Int} {k1 k2 : IntKind} (hd : Nat.blt d n = true) (hx : evS st x = some (.int k1 i)) (hy : evS st y = some (.int k2 j)) (hi : i = 0) (hj : j = (c : Int))
    (hb : bytes * c ≤ 281474976710656) (h63 : c ≤ maxLen)
    (h : ∀ v w', Own w' w.heap.size e m v 0 [] → Ext w w' → Go P n Q (.ops all rest :: k) ((d, v) :: st) w') :
    Go P n Q (.ops all (⟨some d, .makeSlice t x y, to, p, af, none⟩ :: rest) :: k) st w := by
  subst hi; subst hj
  obtain ⟨i, hi, hs, hby, z, hz, hzs⟩ := he.row
  obtain ⟨w', e1, e2, e3⟩ := run_make_own (P := P) w w.heap.size t e i z m he.u hi hz hs k1 k2 c (by rw [hby]; exact hb) h63 (Nat.le_refl _)
  refine go_val hd (fun a ha => ?_) (h _ w' e2 ⟨e3.os, e3.tape, e3.output, e3.size, fun b hb _ => e3.block b hb (by simp)⟩)
  simp [execOp, ha.ev hx, ha.ev hy, e1]

/-- A slice literal of elements of one cell. -/
def litCells : List (Nat × Operand) → St → Nat → Option (List Value)
  | [], _, _ => some []
  | (i, x) :: r, st, j => match Nat.beq i j with
    | true => match evS st x with
      | some v => match litCells r st (j + 1) with
        | some l => match v.oneCell' with
          | true => some (v :: l)
          | false => none
        | none => none
      | none => none
    | false => none

theorem litCells_spec : ∀ {ps : List (Nat × Operand)} {j : Nat} {l : List Value}, litCells ps st j = some l → ∀ {n0 : Nat} {a : Act}, Sat n0 st a →
    (ps.map fun q => (q.1, a.eval q.2)) = (l.zipIdx j).map (fun q => (q.2, q.1)) ∧ (∀ v ∈ l, v.oneCell' = true)
  | [], j, l, h, n0, a, ha => by simp only [litCells, Option.some.injEq] at h; subst h; simp
  | (i, x) :: r, j, l, h, n0, a, ha => by
    simp only [litCells] at h
    split at h
    · rename_i hb
      have : i = j := Nat.eq_of_beq_eq_true hb
      subst this
      split at h
      · rename_i v hv
        split at h
        · rename_i l' hl'
          split at h
          · rename_i h1
            simp only [Option.some.injEq] at h; subst h
            obtain ⟨e1, e2⟩ := litCells_spec hl' ha
            refine ⟨?_, ?_⟩
            · simp only [List.map_cons, List.zipIdx_cons, ha.ev hv, e1]
            · intro u hu
              rcases List.mem_cons.1 hu with rfl | hu
              · exact h1
              · exact e2 u hu
          · cases h
        · cases h
      · cases h
    · cases h

theorem fill_lit : ∀ (l : List Value) (pre : List Value) (post : List Value), (∀ v ∈ l, v.oneCell' = true) → post.length = l.length →
    Instr.fill (fun i => some (i * 1, 1)) (pre ++ post).toArray ((l.zipIdx pre.length).map (fun q => (q.2, q.1))) = some (pre ++ l).toArray
  | [], pre, post, _, h => by
    have : post = [] := List.eq_nil_of_length_eq_zero (by simpa using h)
    subst this
    simp [Instr.fill]
  | v :: l, pre, post, h1, h => by
    obtain ⟨u, post', rfl⟩ : ∃ u p, post = u :: p := by
      cases post with
      | nil => simp at h
      | cons u p => exact ⟨u, p, rfl⟩
    have hv : v.cells = #[v] := by have := h1 v (by simp); cases v <;> first | rfl | cases this
    have ih := fill_lit l (pre ++ [v]) post' (fun x hx => h1 x (by simp [hx])) (by simpa using h)
    simp only [List.zipIdx_cons, List.map_cons, Instr.fill, hv]
    have hc : ¬ (1 ≠ 1 ∨ pre.length * 1 + 1 > (pre ++ u :: post').length) := by simp
    simp only [List.size_toArray, List.length_cons, List.length_nil, Nat.zero_add, Nat.mul_one]
    rw [if_neg (by simp)]
    have hset : ((#[v] : Array Value).zipIdx.foldl (fun cs q => cs.setIfInBounds (pre.length + q.2) q.1) (pre ++ u :: post').toArray) = ((pre ++ [v]) ++ post').toArray := by
      simp
    have e : (pre ++ [v]).length = pre.length + 1 := by simp
    rw [e] at ih
    rw [hset]
    simpa using ih

theorem go_lit [he : Elem P t e 1 bytes] {q nb : Nat} {ps : List (Nat × Operand)} {l : List Value} (hd : Nat.blt d n = true) (hl : litCells ps st 0 = some l) (hq : l.length = q) (hq0 : q ≤ 16777216) (hqp : 0 < q) (hnb : w.heap.size = nb)
    (h : Go P n Q (.ops all rest :: k) ((d, .slice (some ⟨nb, 0, none⟩) q q) :: st) (w.alloc (.cells l.toArray e))) :
    Go P n Q (.ops all (⟨some d, .buildSlice t q ps.toArray, to, p, af, none⟩ :: rest) :: k) st w := by
  subst hnb
  obtain ⟨i, hi, hs, hby, z, hz, hzs⟩ := he.row
  refine go_val hd (fun a ha => ?_) h
  obtain ⟨e1, e2⟩ := litCells_spec hl ha
  have hfill := fill_lit l [] ((List.replicate q z.cells[0]!)) e2 (by simp [hq])
  simp only [List.length_nil, List.nil_append] at hfill
  have hps : (ps.toArray.map fun (i, x) => (i, a.eval x)).toList = (l.zipIdx).map (fun q => (q.2, q.1)) := by
    simp only [List.map_toArray]
    exact e1
  have hz1 : z.cells.size = 1 := hzs
  have hrow : ((Array.range (q * 1)).map (z.cells[· % z.cells.size]!)) = (List.replicate q z.cells[0]!).toArray := by
    apply Array.ext
    · simp
    · intro j h1 h2
      simp [hz1, Nat.mod_one]
  have hnot : ¬ (q * 1 > 2 ^ 24) := by omega
  simp only [execOp, Instr.buildSlice, Sem.run_bind, run_underlying he.u, Result.andThen_ok]
  have hsz : (sizeOf e).run P w = .ok 1 w := by simp [sizeOf, typeInfo, hi, hs]
  have hzv : (zeroValue e).run P w = .ok z w := by simp [zeroValue, typeInfo, hi, hz]
  rw [hsz]
  simp only [Result.andThen_ok]
  rw [if_neg hnot]
  rw [if_neg (by omega)]
  simp only [Sem.run_bind, hzv, Sem.run_pure, Result.andThen_ok]
  simp only [hrow, hps]
  rw [hfill]
  simp [newRow, newObj, Sem.run]

end
end Go.Vc
