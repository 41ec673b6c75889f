/-
  The reference arena: what it answers.
-/
import Derived.Test.YtapocbahkeoeoaaRa
set_option linter.unusedVariables false
namespace Go.Proofs.Ytapocbahkeoeoaa
open Go.Vc

theorem Wf.hi {A : AR} (h : Wf A) {i : Nat} (hi : A.cap < i) : A.used i = false := by
  cases e : A.used i with
  | false => rfl
  | true => have := used_le h e; omega

set_option maxHeartbeats 1000000 in
theorem c_rsAllocated (w : World) (lo : Nat) (V : RV) (A : AR) (i : Nat) (ho : Rd w lo V.ov boolC A.ons) (hwf : Wf A) (hi : i < 4294967296) :
    Calls Try.prog 79 [.agg ⟨rsC A V⟩, .int .u32 (i : Int)].toArray w (Ret fun r w' => r = .bool (A.used i) ∧ Ext w w') := by
  have hcap := hwf.capM
  obtain ⟨nb, cb, sv, gv, ov⟩ := V
  obtain ⟨sa, ca, e, hca, hrr, _⟩ := ho
  rw [ons_len] at e hca
  simp only at e
  subst e
  unfold rsC
  simp only []
  refine calls_go Try.func79 rfl Try.ntmps79 (Nat.le_of_ble_eq_true rfl) ?_
  by_cases h0 : 1 ≤ i
  · by_cases h1 : i ≤ A.cap
    · obtain ⟨k, rfl⟩ : ∃ k, i = k + 1 := ⟨i - 1, by omega⟩
      obtain ⟨b, o, rfl, hcell⟩ := hrr.at (m := 1) (fun _ => rfl) (by omega) (i := k) (by rw [ons_len]; omega)
      have hc := hcell 0 (.bool (A.ons[k]'(by rw [ons_len]; omega))) rfl
      rw [ons_get A (by omega)] at hc
      have hc : w.cell? ⟨b, o + k, none⟩ = some (.bool (A.used (k + 1))) := by simpa using hc
      generalize A.used (k + 1) = z at *
      repeat (first | refine sp ?_ | (refine is_load ?_; refine ld ?_) | (refine is_store ?_; refine sr ?_) | (refine is_alloc ?_; refine al ?_) | (refine is_box ?_; refine bx ?_) | (refine isl_load ?_; refine ldl ?_) | (refine isl_store ?_; refine srl ?_) | (refine isl_alloc ?_; refine all' ?_) | (refine isl_box ?_; refine bxl ?_))
      refine go_as 18 (u' := .int .u32 (k : Int)) rfl (by congr 1; omega) ?_
      repeat (first | refine sp ?_ | (refine is_load ?_; refine ld ?_) | (refine is_store ?_; refine sr ?_) | (refine is_alloc ?_; refine al ?_) | (refine is_box ?_; refine bx ?_) | (refine isl_load ?_; refine ldl ?_) | (refine isl_store ?_; refine srl ?_) | (refine isl_alloc ?_; refine all' ?_) | (refine isl_box ?_; refine bxl ?_))
      refine go_load rfl rfl (ld_cell (Fr.cell (S := fun _ => False) (w := w) (by (repeat (first | exact Fr.refl _ _ | assumption | apply Fr.drewN | apply Fr.alloc | (apply Fr.transF; assumption) | (refine Fr.setRow ?_ _ (by first | exact Or.inr (by (first | omega | (simp; done) | (simp; omega))) | (exact Or.inl (by first | assumption | (simp; done)))))))) hc id)) ?_
      repeat (first | refine sp ?_ | (refine is_load ?_; refine ld ?_) | (refine is_store ?_; refine sr ?_) | (refine is_alloc ?_; refine al ?_) | (refine is_box ?_; refine bx ?_) | (refine isl_load ?_; refine ldl ?_) | (refine isl_store ?_; refine srl ?_) | (refine isl_alloc ?_; refine all' ?_) | (refine isl_box ?_; refine bxl ?_))
      exact go_ret1 rfl rfl ⟨_, rfl, rfl, by (repeat (first | exact Fr.refl _ _ | assumption | apply Fr.drewN | apply Fr.alloc | (apply Fr.transF; assumption) | (refine Fr.setRow ?_ _ (by first | exact Or.inr (by (first | omega | (simp; done) | (simp; omega))) | (exact Or.inl (by first | assumption | (simp; done)))))))⟩
    · rw [hwf.hi (by omega)]
      repeat (first | refine sp ?_ | (refine is_load ?_; refine ld ?_) | (refine is_store ?_; refine sr ?_) | (refine is_alloc ?_; refine al ?_) | (refine is_box ?_; refine bx ?_) | (refine isl_load ?_; refine ldl ?_) | (refine isl_store ?_; refine srl ?_) | (refine isl_alloc ?_; refine all' ?_) | (refine isl_box ?_; refine bxl ?_))
      exact go_ret1 rfl rfl ⟨_, rfl, rfl, by (repeat (first | exact Fr.refl _ _ | assumption | apply Fr.drewN | apply Fr.alloc | (apply Fr.transF; assumption) | (refine Fr.setRow ?_ _ (by first | exact Or.inr (by (first | omega | (simp; done) | (simp; omega))) | (exact Or.inl (by first | assumption | (simp; done)))))))⟩
  · obtain rfl : i = 0 := by omega
    rw [hwf.u0]
    repeat (first | refine sp ?_ | (refine is_load ?_; refine ld ?_) | (refine is_store ?_; refine sr ?_) | (refine is_alloc ?_; refine al ?_) | (refine is_box ?_; refine bx ?_) | (refine isl_load ?_; refine ldl ?_) | (refine isl_store ?_; refine srl ?_) | (refine isl_alloc ?_; refine all' ?_) | (refine isl_box ?_; refine bxl ?_))
    exact go_ret1 rfl rfl ⟨_, rfl, rfl, by (repeat (first | exact Fr.refl _ _ | assumption | apply Fr.drewN | apply Fr.alloc | (apply Fr.transF; assumption) | (refine Fr.setRow ?_ _ (by first | exact Or.inr (by (first | omega | (simp; done) | (simp; omega))) | (exact Or.inl (by first | assumption | (simp; done)))))))⟩

set_option maxHeartbeats 1000000 in
theorem c_rsGeneration (w : World) (lo : Nat) (V : RV) (A : AR) (i : Nat) (hg : Rd w lo V.gv u32c A.gens) (hwf : Wf A) (hg0 : A.gen 0 = 0) (hi : i < 4294967296) :
    Calls Try.prog 54 [.agg ⟨rsC A V⟩, .int .u32 (i : Int)].toArray w (Ret fun r w' => r = .int .u32 (A.genOf i : Int) ∧ Ext w w') := by
  have hcap := hwf.capM
  obtain ⟨nb, cb, sv, gv, ov⟩ := V
  obtain ⟨sa, ca, e, hca, hrr, _⟩ := hg
  rw [gens_len] at e hca
  simp only at e
  subst e
  unfold rsC
  simp only []
  refine calls_go Try.func54 rfl Try.ntmps54 (Nat.le_of_ble_eq_true rfl) ?_
  unfold AR.genOf
  by_cases h0 : 1 ≤ i
  · by_cases h1 : i ≤ A.cap
    · obtain ⟨k, rfl⟩ : ∃ k, i = k + 1 := ⟨i - 1, by omega⟩
      obtain ⟨b, o, rfl, hcell⟩ := hrr.at (m := 1) (fun _ => rfl) (by omega) (i := k) (by rw [gens_len]; omega)
      have hc := hcell 0 (.int .u32 ((A.gens[k]'(by rw [gens_len]; omega) : Nat) : Int)) rfl
      rw [gens_get A (by omega)] at hc
      have hc : w.cell? ⟨b, o + k, none⟩ = some (.int .u32 (A.gen (k + 1) : Int)) := by simpa using hc
      rw [if_pos h1]
      generalize A.gen (k + 1) = z at *
      repeat (first | refine sp ?_ | (refine is_load ?_; refine ld ?_) | (refine is_store ?_; refine sr ?_) | (refine is_alloc ?_; refine al ?_) | (refine is_box ?_; refine bx ?_) | (refine isl_load ?_; refine ldl ?_) | (refine isl_store ?_; refine srl ?_) | (refine isl_alloc ?_; refine all' ?_) | (refine isl_box ?_; refine bxl ?_))
      refine go_as 17 (u' := .int .u32 (k : Int)) rfl (by congr 1; omega) ?_
      repeat (first | refine sp ?_ | (refine is_load ?_; refine ld ?_) | (refine is_store ?_; refine sr ?_) | (refine is_alloc ?_; refine al ?_) | (refine is_box ?_; refine bx ?_) | (refine isl_load ?_; refine ldl ?_) | (refine isl_store ?_; refine srl ?_) | (refine isl_alloc ?_; refine all' ?_) | (refine isl_box ?_; refine bxl ?_))
      refine go_load rfl rfl (ld_cell (Fr.cell (S := fun _ => False) (w := w) (by (repeat (first | exact Fr.refl _ _ | assumption | apply Fr.drewN | apply Fr.alloc | (apply Fr.transF; assumption) | (refine Fr.setRow ?_ _ (by first | exact Or.inr (by (first | omega | (simp; done) | (simp; omega))) | (exact Or.inl (by first | assumption | (simp; done)))))))) hc id)) ?_
      repeat (first | refine sp ?_ | (refine is_load ?_; refine ld ?_) | (refine is_store ?_; refine sr ?_) | (refine is_alloc ?_; refine al ?_) | (refine is_box ?_; refine bx ?_) | (refine isl_load ?_; refine ldl ?_) | (refine isl_store ?_; refine srl ?_) | (refine isl_alloc ?_; refine all' ?_) | (refine isl_box ?_; refine bxl ?_))
      exact go_ret1 rfl rfl ⟨_, rfl, rfl, by (repeat (first | exact Fr.refl _ _ | assumption | apply Fr.drewN | apply Fr.alloc | (apply Fr.transF; assumption) | (refine Fr.setRow ?_ _ (by first | exact Or.inr (by (first | omega | (simp; done) | (simp; omega))) | (exact Or.inl (by first | assumption | (simp; done)))))))⟩
    · rw [if_neg h1]
      repeat (first | refine sp ?_ | (refine is_load ?_; refine ld ?_) | (refine is_store ?_; refine sr ?_) | (refine is_alloc ?_; refine al ?_) | (refine is_box ?_; refine bx ?_) | (refine isl_load ?_; refine ldl ?_) | (refine isl_store ?_; refine srl ?_) | (refine isl_alloc ?_; refine all' ?_) | (refine isl_box ?_; refine bxl ?_))
      exact go_ret1 rfl rfl ⟨_, rfl, rfl, by (repeat (first | exact Fr.refl _ _ | assumption | apply Fr.drewN | apply Fr.alloc | (apply Fr.transF; assumption) | (refine Fr.setRow ?_ _ (by first | exact Or.inr (by (first | omega | (simp; done) | (simp; omega))) | (exact Or.inl (by first | assumption | (simp; done)))))))⟩
  · obtain rfl : i = 0 := by omega
    rw [if_pos (Nat.zero_le _), hg0]
    repeat (first | refine sp ?_ | (refine is_load ?_; refine ld ?_) | (refine is_store ?_; refine sr ?_) | (refine is_alloc ?_; refine al ?_) | (refine is_box ?_; refine bx ?_) | (refine isl_load ?_; refine ldl ?_) | (refine isl_store ?_; refine srl ?_) | (refine isl_alloc ?_; refine all' ?_) | (refine isl_box ?_; refine bxl ?_))
    exact go_ret1 rfl rfl ⟨_, rfl, rfl, by (repeat (first | exact Fr.refl _ _ | assumption | apply Fr.drewN | apply Fr.alloc | (apply Fr.transF; assumption) | (refine Fr.setRow ?_ _ (by first | exact Or.inr (by (first | omega | (simp; done) | (simp; omega))) | (exact Or.inl (by first | assumption | (simp; done)))))))⟩

def okI (A : AR) (i : Nat) : Bool := decide (i = 0) || A.used i
theorem c_rfIndex (w : World) (lo r : Nat) (V : RV) (A : AR) (i : Nat) (h : RfAt w lo r V A) (hi : i < 4294967296) :
    Calls Try.prog 78 [ptr r, .int .u32 (i : Int)].toArray w (Ret fun x w' => x = .bool (okI A i) ∧ Ext w w') := by
  have hr := h.hr
  unfold rfC at hr
  unfold okI
  refine calls_go Try.func78 rfl Try.ntmps78 (Nat.le_of_ble_eq_true rfl) ?_
  by_cases h0 : i = 0
  · subst h0
    repeat (first | refine sp ?_ | (refine is_load ?_; refine ld ?_) | (refine is_store ?_; refine sr ?_) | (refine is_alloc ?_; refine al ?_) | (refine is_box ?_; refine bx ?_) | (refine isl_load ?_; refine ldl ?_) | (refine isl_store ?_; refine srl ?_) | (refine isl_alloc ?_; refine all' ?_) | (refine isl_box ?_; refine bxl ?_))
    exact go_ret1 rfl rfl ⟨_, rfl, rfl, by (repeat (first | exact Fr.refl _ _ | assumption | apply Fr.drewN | apply Fr.alloc | (apply Fr.transF; assumption) | (refine Fr.setRow ?_ _ (by first | exact Or.inr (by (first | omega | (simp; done) | (simp; omega))) | (exact Or.inl (by first | assumption | (simp; done)))))))⟩
  · rw [decide_eq_false h0, Bool.false_or]
    repeat (first | refine sp ?_ | (refine is_load ?_; refine ld ?_) | (refine is_store ?_; refine sr ?_) | (refine is_alloc ?_; refine al ?_) | (refine is_box ?_; refine bx ?_) | (refine isl_load ?_; refine ldl ?_) | (refine isl_store ?_; refine srl ?_) | (refine isl_alloc ?_; refine all' ?_) | (refine isl_box ?_; refine bxl ?_))
    refine go_call rfl rfl (c_rsAllocated _ lo V A i h.ho h.wf hi) ?_
    rintro _ w1 ⟨rfl, hx1⟩
    repeat (first | refine sp ?_ | (refine is_load ?_; refine ld ?_) | (refine is_store ?_; refine sr ?_) | (refine is_alloc ?_; refine al ?_) | (refine is_box ?_; refine bx ?_) | (refine isl_load ?_; refine ldl ?_) | (refine isl_store ?_; refine srl ?_) | (refine isl_alloc ?_; refine all' ?_) | (refine isl_box ?_; refine bxl ?_))
    exact go_ret1 rfl rfl ⟨_, rfl, rfl, hx1⟩

theorem RfAt.cntC {w : World} {lo r : Nat} {V : RV} {A : AR} (h : RfAt w lo r V A) {k : Nat} (hk : k < A.cap) : w.cell? ⟨V.cb, 0 + k, none⟩ = some (.int .i64 (A.cnt (k + 1))) := by
  rw [Nat.zero_add]
  exact h.hc.cell (one_get (f := fun j => Value.int .i64 (A.cnt (j + 1))) hk)

theorem c_rfCounted (w : World) (lo r : Nat) (V : RV) (A : AR) (i : Nat) (h : RfAt w lo r V A) (hi : i < 4294967296) :
    Calls Try.prog 47 [ptr r, .int .u32 (i : Int)].toArray w (Ret fun x w' => x = .int .i64 (A.countOf i) ∧ Ext w w') := by
  have hr := h.hr
  unfold rfC at hr
  refine calls_go Try.func47 rfl Try.ntmps47 (Nat.le_of_ble_eq_true rfl) ?_
  repeat (first | refine sp ?_ | (refine is_load ?_; refine ld ?_) | (refine is_store ?_; refine sr ?_) | (refine is_alloc ?_; refine al ?_) | (refine is_box ?_; refine bx ?_) | (refine isl_load ?_; refine ldl ?_) | (refine isl_store ?_; refine srl ?_) | (refine isl_alloc ?_; refine all' ?_) | (refine isl_box ?_; refine bxl ?_))
  refine go_call rfl rfl (c_rsAllocated _ lo V A i h.ho h.wf hi) ?_
  rintro _ w1 ⟨rfl, hx1⟩
  have hr1 := hr.ext hx1
  unfold AR.countOf
  cases hu : A.used i with
  | false =>
    simp only [Bool.false_eq_true, if_false]
    repeat (first | refine sp ?_ | (refine is_load ?_; refine ld ?_) | (refine is_store ?_; refine sr ?_) | (refine is_alloc ?_; refine al ?_) | (refine is_box ?_; refine bx ?_) | (refine isl_load ?_; refine ldl ?_) | (refine isl_store ?_; refine srl ?_) | (refine isl_alloc ?_; refine all' ?_) | (refine isl_box ?_; refine bxl ?_))
    exact go_ret1 rfl rfl ⟨_, rfl, rfl, hx1⟩
  | true =>
    obtain ⟨u1, u2⟩ := used_le h.wf hu
    have hcap := h.wf.capM
    obtain ⟨k, rfl⟩ : ∃ k, i = k + 1 := ⟨i - 1, by omega⟩
    have hc := (h.ext hx1).cntC (k := k) (by omega)
    simp only [if_true]
    generalize A.cnt (k + 1) = z at *
    repeat (first | refine sp ?_ | (refine is_load ?_; refine ld ?_) | (refine is_store ?_; refine sr ?_) | (refine is_alloc ?_; refine al ?_) | (refine is_box ?_; refine bx ?_) | (refine isl_load ?_; refine ldl ?_) | (refine isl_store ?_; refine srl ?_) | (refine isl_alloc ?_; refine all' ?_) | (refine isl_box ?_; refine bxl ?_))
    refine go_as 17 (u' := .int .u32 (k : Int)) rfl (by congr 1; omega) ?_
    repeat (first | refine sp ?_ | (refine is_load ?_; refine ld ?_) | (refine is_store ?_; refine sr ?_) | (refine is_alloc ?_; refine al ?_) | (refine is_box ?_; refine bx ?_) | (refine isl_load ?_; refine ldl ?_) | (refine isl_store ?_; refine srl ?_) | (refine isl_alloc ?_; refine all' ?_) | (refine isl_box ?_; refine bxl ?_))
    exact go_ret1 rfl rfl ⟨_, rfl, rfl, hx1⟩

/-- The blocks of the reference arena. -/
def RfB (r : Nat) (V : RV) (b : Nat) : Prop := b = r ∨ b = V.nb ∨ b = V.cb ∨ V.sv.ownBlock = some b ∨ V.gv.ownBlock = some b ∨ V.ov.ownBlock = some b
theorem Rd.frB {α : Type} {w w' : World} {lo : Nat} {v : Value} {enc : α → List Value} {xs : List α} {S : Nat → Prop} (h : Rd w lo v enc xs) (f : Fr S w w') (hS : ∀ b, v.ownBlock = some b → ¬ S b) : Rd w' lo v enc xs := by
  obtain ⟨sa, cap, rfl, hc, hr, hb⟩ := h
  refine ⟨sa, cap, rfl, hc, hr.fr f (fun b o e => hS b (by subst e; rfl)), fun b o e hx => ⟨(hb b o e hx).1, Nat.lt_of_lt_of_le (hb b o e hx).2 f.size⟩⟩
theorem RfAt.fr {w w' : World} {lo r : Nat} {V : RV} {A : AR} {S : Nat → Prop} (h : RfAt w lo r V A) (f : Fr S w w') (hS : ∀ b, RfB r V b → ¬ S b) : RfAt w' lo r V A :=
  ⟨h.hr.fr f (hS _ (Or.inl rfl)), h.hn.fr f (hS _ (Or.inr (Or.inl rfl))), h.hc.fr f (hS _ (Or.inr (Or.inr (Or.inl rfl)))), Rd.frB h.hs f (fun b hb => hS b (Or.inr (Or.inr (Or.inr (Or.inl hb))))), Rd.frB h.hg f (fun b hb => hS b (Or.inr (Or.inr (Or.inr (Or.inr (Or.inl hb)))))), Rd.frB h.ho f (fun b hb => hS b (Or.inr (Or.inr (Or.inr (Or.inr (Or.inr hb)))))), h.los, h.ap, fun b hb => Nat.lt_of_lt_of_le (h.bl b hb) f.size, h.wf⟩

theorem RfAt.lt {w : World} {lo r : Nat} {V : RV} {A : AR} (h : RfAt w lo r V A) : ∀ b, RfB r V b → b < w.heap.size := by
  rintro b (rfl | rfl | rfl | hb)
  · exact h.hr.lt
  · exact h.hn.lt
  · exact h.hc.lt
  · exact h.bl b hb

/-- A step of the reference arena: its blocks change, and what it takes is new. -/
structure RGr (r : Nat) (V V' : RV) (w w' : World) : Prop where
  nw : ∀ b, RfB r V' b → RfB r V b ∨ w.heap.size ≤ b
  fr : Fr (fun b => b = r ∨ b = V.nb ∨ b = V.cb) w w'
  nb : V'.nb = V.nb
  cb : V'.cb = V.cb
theorem RGr.ext {r : Nat} {V : RV} {w w' : World} (f : Ext w w') : RGr r V V w w' := ⟨fun _ h => Or.inl h, f.mono fun _ e => e.elim, rfl, rfl⟩
theorem RGr.trans {r : Nat} {V V1 V2 : RV} {w w1 w2 : World} (h : RGr r V V1 w w1) (g : RGr r V1 V2 w1 w2) : RGr r V V2 w w2 :=
  ⟨fun b hb => (g.nw b hb).elim (fun h1 => h.nw b h1) fun h1 => Or.inr (Nat.le_trans h.fr.size h1), h.fr.trans (g.fr.mono fun b e => by rw [h.nb, h.cb] at e; exact e), g.nb.trans h.nb, g.cb.trans h.cb⟩
/-- The blocks of one kind lie apart from the others. -/
theorem RfAt.sep {w : World} {lo r : Nat} {V : RV} {A : AR} (h : RfAt w lo r V A) : r ≠ V.nb ∧ r ≠ V.cb ∧ V.nb ≠ V.cb := ⟨h.hr.ne h.hn (by decide), h.hr.ne h.hc (by decide), h.hn.ne h.hc (by decide)⟩

/-- The row of the arena itself is written. -/
theorem RfAt.put {w : World} {lo r : Nat} {V V' : RV} {A A' : AR} (h : RfAt w lo r V A) (hn : V'.nb = V.nb) (hc : V'.cb = V.cb) (en : A'.node = A.node) (ec : A'.cnt = A.cnt) (ep : A'.cap = A.cap)
    (hs : Rd w lo V'.sv u32c A'.rel) (hg : Rd w lo V'.gv u32c A'.gens) (ho : Rd w lo V'.ov boolC A'.ons) (ap : ∀ b, (V'.sv.ownBlock = some b ∨ V'.gv.ownBlock = some b ∨ V'.ov.ownBlock = some b) → b ≠ r ∧ b ≠ V'.nb ∧ b ≠ V'.cb) (bl : ∀ b, (V'.sv.ownBlock = some b ∨ V'.gv.ownBlock = some b ∨ V'.ov.ownBlock = some b) → b < w.heap.size) (wf : Wf A') : RfAt (w.setRow r (rfC A' V').toArray) lo r V' A' := by
  have hs' := h.sep
  have f : Fr (fun b => b = r) w (w.setRow r (rfC A' V').toArray) := (Fr.refl _ _).setRow _ (Or.inl rfl)
  refine ⟨h.hr.setRow _, ?_, ?_, Rd.frB hs f fun b hb e => (ap b (Or.inl hb)).1 e, Rd.frB hg f fun b hb e => (ap b (Or.inr (Or.inl hb))).1 e, Rd.frB ho f fun b hb e => (ap b (Or.inr (Or.inr hb))).1 e, ?_, ap, fun b hb => Nat.lt_of_lt_of_le (bl b hb) f.size, wf⟩
  · rw [hn, en, ep]; exact h.hn.fr f fun e => hs'.1 e.symm
  · rw [hc, ec, ep]; exact h.hc.fr f fun e => hs'.2.1 e.symm
  · rw [hn, hc]; exact h.los

set_option maxHeartbeats 1000000 in
theorem c_rfNode (w : World) (lo r : Nat) (V : RV) (A : AR) (i : Nat) (h : RfAt w lo r V A) (hi : i < 4294967296) :
    Calls Try.prog 50 [ptr r, .int .u32 (i : Int)].toArray w (Ret fun x w' => x = .tuple #[.agg ⟨(A.nodeOf i).cells⟩, .bool (A.used i)] ∧ RfAt w' lo r V (A.read i) ∧ Fr (fun b => b = r) w w') := by
  have hr := h.hr
  unfold rfC at hr
  have hlr := hr.lt
  refine calls_go Try.func50 rfl Try.ntmps50 (Nat.le_of_ble_eq_true rfl) ?_
  repeat (first | refine sp ?_ | (refine is_load ?_; refine ld ?_) | (refine is_store ?_; refine sr ?_) | (refine is_alloc ?_; refine al ?_) | (refine is_box ?_; refine bx ?_) | (refine isl_load ?_; refine ldl ?_) | (refine isl_store ?_; refine srl ?_) | (refine isl_alloc ?_; refine all' ?_) | (refine isl_box ?_; refine bxl ?_))
  refine go_call rfl rfl (c_rsAllocated _ lo V A i (h.ho.ext (by (repeat (first | exact Fr.refl _ _ | assumption | apply Fr.drewN | apply Fr.alloc | (apply Fr.transF; assumption) | (refine Fr.setRow ?_ _ (by first | exact Or.inr (by (first | omega | (simp; done) | (simp; omega))) | (exact Or.inl (by first | assumption | (simp; done))))))))) h.wf hi) ?_
  rintro _ w1 ⟨rfl, hx1⟩
  have hx1' : Ext w w1 := Fr.trans (by (repeat (first | exact Fr.refl _ _ | assumption | apply Fr.drewN | apply Fr.alloc | (apply Fr.transF; assumption) | (refine Fr.setRow ?_ _ (by first | exact Or.inr (by (first | omega | (simp; done) | (simp; omega))) | (exact Or.inl (by first | assumption | (simp; done)))))))) hx1
  have h1 := h.ext hx1'
  have hr1 := hr.ext hx1'
  have hres : At w1 w.heap.size Nd.zero.cells 50 := At.ext (At.new _ _ _) hx1
  unfold Nd.cells Nd.zero at hres
  simp only at hres
  have hnr : w.heap.size ≠ r := by omega
  cases hu : A.used i with
  | false =>
    have e1 : A.nodeOf i = Nd.zero := by unfold AR.nodeOf; rw [hu]; rfl
    have e2 : A.read i = A := by unfold AR.read; rw [hu]; rfl
    rw [e1, e2]
    repeat (first | refine sp ?_ | (refine is_load ?_; refine ld ?_) | (refine is_store ?_; refine sr ?_) | (refine is_alloc ?_; refine al ?_) | (refine is_box ?_; refine bx ?_) | (refine isl_load ?_; refine ldl ?_) | (refine isl_store ?_; refine srl ?_) | (refine isl_alloc ?_; refine all' ?_) | (refine isl_box ?_; refine bxl ?_))
    have hx : Ext w (w1.setRow w.heap.size ([Value.int .i64 0, .int .i64 0, .int .u32 0, .int .u32 0, .int .i64 0, .int .i64 0, .int .i64 0, .int .i64 0] : List Value).toArray) := by (repeat (first | exact Fr.refl _ _ | assumption | apply Fr.drewN | apply Fr.alloc | (apply Fr.transF; assumption) | (refine Fr.setRow ?_ _ (by first | exact Or.inr (by (first | omega | (simp; done) | (simp; omega))) | (exact Or.inl (by first | assumption | (simp; done)))))))
    exact go_ret2 rfl ⟨_, rfl, Ld.run (ld_part (by (repeat (first | assumption | (refine At.new' (by (first | omega | (simp; done) | (simp; omega))) _ _) | apply At.alloc | apply At.drewN | apply At.setRow | (apply At.setRow_neF; first | assumption | (apply Ne.symm; assumption) | omega) | (apply At.extF; assumption)))) rfl rfl)⟩ rfl ⟨_, rfl, rfl, h.ext hx, hx.mono fun _ e => e.elim⟩
  | true =>
    obtain ⟨u1, u2⟩ := used_le h.wf hu
    have hcap := h.wf.capM
    obtain ⟨k, rfl⟩ : ∃ k, i = k + 1 := ⟨i - 1, by omega⟩
    have hn1 := h1.hn
    have hsep := h.sep
    obtain ⟨N, hN⟩ : ∃ N, A.node (k + 1) = N := ⟨_, rfl⟩
    have e1 : A.nodeOf (k + 1) = N := by unfold AR.nodeOf; rw [if_pos hu, hN]
    have e2 : A.read (k + 1) = { A with reads := (A.reads + 1) % 18446744073709551616 } := by unfold AR.read; rw [if_pos hu]
    have e3 : IntKind.u64.wrap ((A.reads : Int) + 1) = (((A.reads + 1) % 18446744073709551616 : Nat) : Int) := by
      simp [IntKind.wrap, IntKind.bits, IntKind.signed]
    rw [e1, e2]
    have hP : RfAt (w1.setRow r (rfC { A with reads := (A.reads + 1) % 18446744073709551616 } V).toArray) lo r V { A with reads := (A.reads + 1) % 18446744073709551616 } :=
      h1.put rfl rfl rfl rfl rfl h1.hs h1.hg h1.ho h1.ap h1.bl (h1.wf.congr rfl rfl rfl rfl rfl)
    repeat (first | refine sp ?_ | (refine is_load ?_; refine ld ?_) | (refine is_store ?_; refine sr ?_) | (refine is_alloc ?_; refine al ?_) | (refine is_box ?_; refine bx ?_) | (refine isl_load ?_; refine ldl ?_) | (refine isl_store ?_; refine srl ?_) | (refine isl_alloc ?_; refine all' ?_) | (refine isl_box ?_; refine bxl ?_))
    refine go_as 26 (u' := .int .u32 (k : Int)) rfl (by congr 1; omega) ?_
    repeat (first | refine sp ?_ | (refine is_load ?_; refine ld ?_) | (refine is_store ?_; refine sr ?_) | (refine is_alloc ?_; refine al ?_) | (refine is_box ?_; refine bx ?_) | (refine isl_load ?_; refine ldl ?_) | (refine isl_store ?_; refine srl ?_) | (refine isl_alloc ?_; refine all' ?_) | (refine isl_box ?_; refine bxl ?_))
    refine go_load (v := .agg ⟨(A.node (k + 1)).cells⟩) rfl rfl (node_ld (f := fun j => A.node (j + 1)) (n := A.cap) (by (repeat (first | assumption | (refine At.new' (by (first | omega | (simp; done) | (simp; omega))) _ _) | apply At.alloc | apply At.drewN | apply At.setRow | (apply At.setRow_neF; first | assumption | (apply Ne.symm; assumption) | omega) | (apply At.extF; assumption)))) (by omega)) ?_
    rw [hN, e3]
    unfold Nd.cells
    refine go_name (F := fun w2 => RfAt w2 lo r V { A with reads := (A.reads + 1) % 18446744073709551616 } ∧ At w2 w.heap.size [.int .i64 0, .int .i64 0, .int .u32 0, .int .u32 0, .int .i64 0, .int .i64 0, .int .i64 0, .int .i64 0] 50 ∧ Fr (fun b => b = r) w w2) ⟨hP, by (repeat (first | assumption | (refine At.new' (by (first | omega | (simp; done) | (simp; omega))) _ _) | apply At.alloc | apply At.drewN | apply At.setRow | (apply At.setRow_neF; first | assumption | (apply Ne.symm; assumption) | omega) | (apply At.extF; assumption))), by (repeat (first | exact Fr.refl _ _ | assumption | apply Fr.drewN | apply Fr.alloc | (apply Fr.transF; assumption) | (refine Fr.setRow ?_ _ (by first | exact Or.inr (by (first | omega | (simp; done) | (simp; omega))) | (exact Or.inl (by first | assumption | (simp; done)))))))⟩ ?_
    rintro w2 ⟨h2, hres2, hf2⟩
    have hr2 := h2.hr.lt
    repeat (first | refine sp ?_ | (refine is_load ?_; refine ld ?_) | (refine is_store ?_; refine sr ?_) | (refine is_alloc ?_; refine al ?_) | (refine is_box ?_; refine bx ?_) | (refine isl_load ?_; refine ldl ?_) | (refine isl_store ?_; refine srl ?_) | (refine isl_alloc ?_; refine all' ?_) | (refine isl_box ?_; refine bxl ?_))
    exact go_ret2 rfl ⟨_, rfl, Ld.run (ld_part (by (repeat (first | assumption | (refine At.new' (by (first | omega | (simp; done) | (simp; omega))) _ _) | apply At.alloc | apply At.drewN | apply At.setRow | (apply At.setRow_neF; first | assumption | (apply Ne.symm; assumption) | omega) | (apply At.extF; assumption)))) rfl rfl)⟩ rfl ⟨_, rfl, rfl, h2.fr (S := fun b => b = w.heap.size) (by (repeat (first | exact Fr.refl _ _ | assumption | apply Fr.drewN | apply Fr.alloc | (apply Fr.transF; assumption) | (refine Fr.setRow ?_ _ (by first | exact Or.inr (by (first | omega | (simp; done) | (simp; omega))) | (exact Or.inl (by first | assumption | (simp; done)))))))) (fun b hb e => by have := h.lt b hb; omega), by (repeat (first | exact Fr.refl _ _ | assumption | apply Fr.drewN | apply Fr.alloc | (apply Fr.transF; assumption) | (refine Fr.setRow ?_ _ (by first | exact Or.inr (by (first | omega | (simp; done) | (simp; omega))) | (exact Or.inl (by first | assumption | (simp; done)))))))⟩

theorem c_rfSize (w : World) (lo r : Nat) (V : RV) (A : AR) (i : Nat) (h : RfAt w lo r V A) (hi : i < 4294967296) :
    Calls Try.prog 51 [ptr r, .int .u32 (i : Int)].toArray w (Ret fun x w' => x = .int .i64 (A.sizeOf i) ∧ RfAt w' lo r V (A.read i) ∧ Fr (fun b => b = r) w w') := by
  refine calls_go Try.func51 rfl Try.ntmps51 (Nat.le_of_ble_eq_true rfl) ?_
  repeat (first | refine sp ?_ | (refine is_load ?_; refine ld ?_) | (refine is_store ?_; refine sr ?_) | (refine is_alloc ?_; refine al ?_) | (refine is_box ?_; refine bx ?_) | (refine isl_load ?_; refine ldl ?_) | (refine isl_store ?_; refine srl ?_) | (refine isl_alloc ?_; refine all' ?_) | (refine isl_box ?_; refine bxl ?_))
  refine go_call rfl rfl (c_rfNode w lo r V A i h hi) ?_
  rintro _ w1 ⟨rfl, h1, f1⟩
  have e : A.sizeOf i = (A.nodeOf i).size := by unfold AR.sizeOf AR.nodeOf; split <;> rfl
  rw [e]
  generalize A.nodeOf i = N
  unfold Nd.cells
  repeat (first | refine sp ?_ | (refine is_load ?_; refine ld ?_) | (refine is_store ?_; refine sr ?_) | (refine is_alloc ?_; refine al ?_) | (refine is_box ?_; refine bx ?_) | (refine isl_load ?_; refine ldl ?_) | (refine isl_store ?_; refine srl ?_) | (refine isl_alloc ?_; refine all' ?_) | (refine isl_box ?_; refine bxl ?_))
  refine go_ret1 rfl rfl ⟨_, rfl, rfl, h1.ext (by (repeat (first | exact Fr.refl _ _ | assumption | apply Fr.drewN | apply Fr.alloc | (apply Fr.transF; assumption) | (refine Fr.setRow ?_ _ (by first | exact Or.inr (by (first | omega | (simp; done) | (simp; omega))) | (exact Or.inl (by first | assumption | (simp; done)))))))), ?_⟩
  exact f1.trans (Fr.mono (S := fun _ => False) (by (repeat (first | exact Fr.refl _ _ | assumption | apply Fr.drewN | apply Fr.alloc | (apply Fr.transF; assumption) | (refine Fr.setRow ?_ _ (by first | exact Or.inr (by (first | omega | (simp; done) | (simp; omega))) | (exact Or.inl (by first | assumption | (simp; done)))))))) fun _ e => e.elim)

set_option maxHeartbeats 1000000 in
theorem c_rfAt (w : World) (lo r : Nat) (V : RV) (A : AR) (i : Nat) (h : RfAt w lo r V A) (hi : i = 0 ∨ A.used i = true) :
    Calls Try.prog 82 [ptr r, .int .u32 (i : Int)].toArray w (Ret fun x w' => x = .agg ⟨(A.nodeOf i).cells⟩ ∧ Ext w w') := by
  have hr := h.hr
  unfold rfC at hr
  have hlr := hr.lt
  have hcap := h.wf.capM
  refine calls_go Try.func82 rfl Try.ntmps82 (Nat.le_of_ble_eq_true rfl) ?_
  rcases hi with rfl | hu
  · have e1 : A.nodeOf 0 = Nd.zero := by unfold AR.nodeOf; rw [h.wf.u0]; rfl
    rw [e1]
    repeat (first | refine sp ?_ | (refine is_load ?_; refine ld ?_) | (refine is_store ?_; refine sr ?_) | (refine is_alloc ?_; refine al ?_) | (refine is_box ?_; refine bx ?_) | (refine isl_load ?_; refine ldl ?_) | (refine isl_store ?_; refine srl ?_) | (refine isl_alloc ?_; refine all' ?_) | (refine isl_box ?_; refine bxl ?_))
    exact go_ret1 rfl ⟨_, rfl, Ld.run (ld_part (by (repeat (first | assumption | (refine At.new' (by (first | omega | (simp; done) | (simp; omega))) _ _) | apply At.alloc | apply At.drewN | apply At.setRow | (apply At.setRow_neF; first | assumption | (apply Ne.symm; assumption) | omega) | (apply At.extF; assumption)))) rfl rfl)⟩ ⟨_, rfl, rfl, by (repeat (first | exact Fr.refl _ _ | assumption | apply Fr.drewN | apply Fr.alloc | (apply Fr.transF; assumption) | (refine Fr.setRow ?_ _ (by first | exact Or.inr (by (first | omega | (simp; done) | (simp; omega))) | (exact Or.inl (by first | assumption | (simp; done)))))))⟩
  · obtain ⟨u1, u2⟩ := used_le h.wf hu
    obtain ⟨k, rfl⟩ : ∃ k, i = k + 1 := ⟨i - 1, by omega⟩
    have hn1 := h.hn
    obtain ⟨N, hN⟩ : ∃ N, A.node (k + 1) = N := ⟨_, rfl⟩
    have e1 : A.nodeOf (k + 1) = N := by unfold AR.nodeOf; rw [if_pos hu, hN]
    rw [e1]
    repeat (first | refine sp ?_ | (refine is_load ?_; refine ld ?_) | (refine is_store ?_; refine sr ?_) | (refine is_alloc ?_; refine al ?_) | (refine is_box ?_; refine bx ?_) | (refine isl_load ?_; refine ldl ?_) | (refine isl_store ?_; refine srl ?_) | (refine isl_alloc ?_; refine all' ?_) | (refine isl_box ?_; refine bxl ?_))
    refine go_as 13 (u' := .int .u32 (k : Int)) rfl (by congr 1; omega) ?_
    repeat (first | refine sp ?_ | (refine is_load ?_; refine ld ?_) | (refine is_store ?_; refine sr ?_) | (refine is_alloc ?_; refine al ?_) | (refine is_box ?_; refine bx ?_) | (refine isl_load ?_; refine ldl ?_) | (refine isl_store ?_; refine srl ?_) | (refine isl_alloc ?_; refine all' ?_) | (refine isl_box ?_; refine bxl ?_))
    refine go_load (v := .agg ⟨(A.node (k + 1)).cells⟩) rfl rfl (node_ld (f := fun j => A.node (j + 1)) (n := A.cap) (by (repeat (first | assumption | (refine At.new' (by (first | omega | (simp; done) | (simp; omega))) _ _) | apply At.alloc | apply At.drewN | apply At.setRow | (apply At.setRow_neF; first | assumption | (apply Ne.symm; assumption) | omega) | (apply At.extF; assumption)))) (by omega)) ?_
    rw [hN]
    unfold Nd.cells
    repeat (first | refine sp ?_ | (refine is_load ?_; refine ld ?_) | (refine is_store ?_; refine sr ?_) | (refine is_alloc ?_; refine al ?_) | (refine is_box ?_; refine bx ?_) | (refine isl_load ?_; refine ldl ?_) | (refine isl_store ?_; refine srl ?_) | (refine isl_alloc ?_; refine all' ?_) | (refine isl_box ?_; refine bxl ?_))
    exact go_ret1 rfl ⟨_, rfl, Ld.run (ld_part (by (repeat (first | assumption | (refine At.new' (by (first | omega | (simp; done) | (simp; omega))) _ _) | apply At.alloc | apply At.drewN | apply At.setRow | (apply At.setRow_neF; first | assumption | (apply Ne.symm; assumption) | omega) | (apply At.extF; assumption)))) rfl rfl)⟩ ⟨_, rfl, rfl, by (repeat (first | exact Fr.refl _ _ | assumption | apply Fr.drewN | apply Fr.alloc | (apply Fr.transF; assumption) | (refine Fr.setRow ?_ _ (by first | exact Or.inr (by (first | omega | (simp; done) | (simp; omega))) | (exact Or.inl (by first | assumption | (simp; done)))))))⟩

theorem cnt_set {A : AR} {k : Nat} {z : Int} (hk : k < A.cap) : (cellsF (fun j => [Value.int .i64 (A.cnt (j + 1))]) A.cap).set (0 + k) (.int .i64 z) = cellsF (fun j => [.int .i64 (upd A.cnt (k + 1) z (j + 1))]) A.cap := by
  rw [Nat.zero_add, one_set (f := fun j => Value.int .i64 (A.cnt (j + 1))) hk]
  refine cellsF_congr fun j _ => ?_
  unfold upd
  by_cases e : j = k
  · subst e; simp
  · rw [if_neg e, if_neg (by omega)]

/-- A count is written. -/
theorem RfAt.cntW {w : World} {lo r : Nat} {V : RV} {A : AR} (h : RfAt w lo r V A) {k : Nat} (hk : k < A.cap) (z : Int) (A' : AR) (e : A' = { A with cnt := upd A.cnt (k + 1) z }) : RfAt (w.setRow V.cb ((cellsF (fun j => [Value.int .i64 (A.cnt (j + 1))]) A.cap).set (0 + k) (.int .i64 z)).toArray) lo r V A' := by
  subst e
  have hs := h.sep
  have f : Fr (fun b => b = V.cb) w (w.setRow V.cb ((cellsF (fun j => [Value.int .i64 (A.cnt (j + 1))]) A.cap).set (0 + k) (.int .i64 z)).toArray) := (Fr.refl _ _).setRow _ (Or.inl rfl)
  refine ⟨h.hr.fr f hs.2.1, h.hn.fr f hs.2.2, ?_, Rd.frB h.hs f fun b hb e => (h.ap b (Or.inl hb)).2.2 e, Rd.frB h.hg f fun b hb e => (h.ap b (Or.inr (Or.inl hb))).2.2 e, Rd.frB h.ho f fun b hb e => (h.ap b (Or.inr (Or.inr hb))).2.2 e, h.los, h.ap, fun b hb => Nat.lt_of_lt_of_le (h.bl b hb) f.size, h.wf.congr rfl rfl rfl rfl rfl⟩
  rw [cnt_set hk]
  exact h.hc.setRow _

set_option maxHeartbeats 1000000 in
theorem c_rfRetain (w : World) (lo r : Nat) (V : RV) (A : AR) (i : Nat) (h : RfAt w lo r V A) (hi : i < 4294967296) :
    Calls Try.prog 46 [ptr r, .int .u32 (i : Int)].toArray w (Ret fun x w' => x = .int .i64 (A.retainE i) ∧ RfAt w' lo r V (A.retain i) ∧ Fr (fun b => b = V.cb) w w') := by
  have hr := h.hr
  unfold rfC at hr
  have hlr := hr.lt
  have hcap := h.wf.capM
  refine calls_go Try.func46 rfl Try.ntmps46 (Nat.le_of_ble_eq_true rfl) ?_
  repeat (first | refine sp ?_ | (refine is_load ?_; refine ld ?_) | (refine is_store ?_; refine sr ?_) | (refine is_alloc ?_; refine al ?_) | (refine is_box ?_; refine bx ?_) | (refine isl_load ?_; refine ldl ?_) | (refine isl_store ?_; refine srl ?_) | (refine isl_alloc ?_; refine all' ?_) | (refine isl_box ?_; refine bxl ?_))
  refine go_call rfl rfl (c_rfIndex w lo r V A i h hi) ?_
  rintro _ w1 ⟨rfl, hx1⟩
  have h1 := h.ext hx1
  have hr1 := hr.ext hx1
  unfold okI AR.retain AR.retainE
  by_cases h0 : i = 0
  · subst h0
    rw [decide_eq_true rfl, if_pos (Or.inl rfl), if_neg (fun e => e.1 rfl)]
    simp only [Bool.true_or]
    repeat (first | refine sp ?_ | (refine is_load ?_; refine ld ?_) | (refine is_store ?_; refine sr ?_) | (refine is_alloc ?_; refine al ?_) | (refine is_box ?_; refine bx ?_) | (refine isl_load ?_; refine ldl ?_) | (refine isl_store ?_; refine srl ?_) | (refine isl_alloc ?_; refine all' ?_) | (refine isl_box ?_; refine bxl ?_))
    exact go_ret1 rfl rfl ⟨_, rfl, rfl, h1, hx1.mono fun _ e => e.elim⟩
  · rw [decide_eq_false h0, Bool.false_or]
    cases hu : A.used i with
    | false =>
      rw [if_neg (by simp [h0]), if_neg (by simp)]
      repeat (first | refine sp ?_ | (refine is_load ?_; refine ld ?_) | (refine is_store ?_; refine sr ?_) | (refine is_alloc ?_; refine al ?_) | (refine is_box ?_; refine bx ?_) | (refine isl_load ?_; refine ldl ?_) | (refine isl_store ?_; refine srl ?_) | (refine isl_alloc ?_; refine all' ?_) | (refine isl_box ?_; refine bxl ?_))
      exact go_ret1 rfl rfl ⟨_, rfl, rfl, h1, hx1.mono fun _ e => e.elim⟩
    | true =>
      obtain ⟨u1, u2⟩ := used_le h.wf hu
      obtain ⟨k, rfl⟩ : ∃ k, i = k + 1 := ⟨i - 1, by omega⟩
      have hcc := h1.cntC (k := k) (by omega)
      have hC := h1.hc
      rw [if_pos (Or.inr rfl), if_pos ⟨h0, rfl⟩]
      repeat (first | refine sp ?_ | (refine is_load ?_; refine ld ?_) | (refine is_store ?_; refine sr ?_) | (refine is_alloc ?_; refine al ?_) | (refine is_box ?_; refine bx ?_) | (refine isl_load ?_; refine ldl ?_) | (refine isl_store ?_; refine srl ?_) | (refine isl_alloc ?_; refine all' ?_) | (refine isl_box ?_; refine bxl ?_))
      refine go_as 16 (u' := .int .u32 (k : Int)) rfl (by congr 1; omega) ?_
      repeat (first | refine sp ?_ | (refine is_load ?_; refine ld ?_) | (refine is_store ?_; refine sr ?_) | (refine is_alloc ?_; refine al ?_) | (refine is_box ?_; refine bx ?_) | (refine isl_load ?_; refine ldl ?_) | (refine isl_store ?_; refine srl ?_) | (refine isl_alloc ?_; refine all' ?_) | (refine isl_box ?_; refine bxl ?_))
      exact go_ret1 rfl rfl ⟨_, rfl, rfl, h1.cntW (by omega) _ _ rfl, (hx1.mono fun _ e => e.elim).trans ((Fr.refl _ _).setRow _ (Or.inl rfl))⟩

theorem edge0 {A : AR} (h : Wf A) (i : Nat) : edge A 0 i = 0 := by unfold edge; rw [h.u0]; rfl

theorem RfAt.kidC {w : World} {lo r : Nat} {V : RV} {A : AR} (h : RfAt w lo r V A) {k : Nat} (hk : k < A.cap) : w.cell? ⟨V.nb, 0 + k * 8 + 2, none⟩ = some (.int .u32 ((A.node (k + 1)).left : Int)) ∧ w.cell? ⟨V.nb, 0 + k * 8 + 3, none⟩ = some (.int .u32 ((A.node (k + 1)).right : Int)) :=
  ⟨node_cell (f := fun j => A.node (j + 1)) (j := 2) h.hn hk rfl, node_cell (f := fun j => A.node (j + 1)) (j := 3) h.hn hk rfl⟩

set_option maxHeartbeats 2000000 in
theorem c_rfEdges (w : World) (lo r : Nat) (V : RV) (A : AR) (i : Nat) (h : RfAt w lo r V A) (hi : i < 4294967296) :
    Calls Try.prog 48 [ptr r, .int .u32 (i : Int)].toArray w (Ret fun x w' => x = .int .i64 (edges A i : Int) ∧ w' = w) := by
  have hr := h.hr
  unfold rfC at hr
  have hlr := hr.lt
  have hcap := h.wf.capM
  have hle : ∀ n, n ≤ A.cap + 1 → sumTo (fun k => edge A k i) n ≤ 2 * n := by
    intro n
    induction n with
    | zero => intro _; exact Nat.le_refl _
    | succ n ih => intro hn; have := ih (by omega); have := edge_le A n i; simp only [sumTo]; omega
  refine calls_go Try.func48 rfl Try.ntmps48 (Nat.le_of_ble_eq_true rfl) ?_
  repeat (first | refine sp ?_ | (refine is_load ?_; refine ld ?_) | (refine is_store ?_; refine sr ?_) | (refine is_alloc ?_; refine al ?_) | (refine is_box ?_; refine bx ?_) | (refine isl_load ?_; refine ldl ?_) | (refine isl_store ?_; refine srl ?_) | (refine isl_alloc ?_; refine all' ?_) | (refine isl_box ?_; refine bxl ?_))
  refine go_loop (G := Nat) [6, 5] (fun k => [.int .i64 (k : Int), .int .i64 (sumTo (fun j => edge A j i) (k + 1) : Int)]) [(0, ptr r), (1, .int .u32 (i : Int))]
    (fun k w' => k ≤ A.cap ∧ w' = w) (fun k => A.cap - k) 0 ?_ ⟨rfl, rfl, trivial⟩ ⟨by omega, rfl⟩ ?_
  · simp only [sumTo, edge0 h.wf]; rfl
  rintro k w ⟨hk, rfl⟩
  have hb := hle (k + 1) (by omega)
  by_cases hlt : k < A.cap
  · obtain ⟨b1, o1, c1, e1, _, hon⟩ := h.onAt hlt
    rw [e1] at hr
    obtain ⟨hkl, hkr⟩ := h.kidC hlt
    have hs : sumTo (fun j => edge A j i) (k + 1 + 1) = sumTo (fun j => edge A j i) (k + 1) + edge A (k + 1) i := rfl
    generalize sumTo (fun j => edge A j i) (k + 1) = n0 at *
    obtain ⟨ed, hed⟩ : ∃ e, edge A (k + 1) i = e := ⟨_, rfl⟩
    rw [hed] at hs
    unfold edge eq01 at hed
    cases hu : A.used (k + 1) with
    | false =>
      rw [hu] at hon hed
      simp only [Bool.false_eq_true, if_false] at hed
      repeat (first | refine sp ?_ | (refine is_load ?_; refine ld ?_) | (refine is_store ?_; refine sr ?_) | (refine is_alloc ?_; refine al ?_) | (refine is_box ?_; refine bx ?_) | (refine isl_load ?_; refine ldl ?_) | (refine isl_store ?_; refine srl ?_) | (refine isl_alloc ?_; refine all' ?_) | (refine isl_box ?_; refine bxl ?_))
      exact go_stop (G := Nat) (k + 1) (by rw [hs, ← hed]; rfl) ⟨rfl, rfl, trivial⟩ ⟨hlt, rfl⟩ (by show A.cap - (k + 1) < A.cap - k; omega)
    | true =>
      rw [hu] at hon hed
      simp only [if_true] at hed
      generalize (A.node (k + 1)).left = ll at *
      generalize (A.node (k + 1)).right = rr at *
      by_cases z1 : ll = i
      · by_cases z2 : rr = i
        · rw [if_pos z1, if_pos z2] at hed
          repeat (first | refine sp ?_ | (refine is_load ?_; refine ld ?_) | (refine is_store ?_; refine sr ?_) | (refine is_alloc ?_; refine al ?_) | (refine is_box ?_; refine bx ?_) | (refine isl_load ?_; refine ldl ?_) | (refine isl_store ?_; refine srl ?_) | (refine isl_alloc ?_; refine all' ?_) | (refine isl_box ?_; refine bxl ?_))
          exact go_stop (G := Nat) (k + 1) (by rw [hs, ← hed]; rfl) ⟨rfl, rfl, trivial⟩ ⟨hlt, rfl⟩ (by show A.cap - (k + 1) < A.cap - k; omega)
        · rw [if_pos z1, if_neg z2] at hed
          repeat (first | refine sp ?_ | (refine is_load ?_; refine ld ?_) | (refine is_store ?_; refine sr ?_) | (refine is_alloc ?_; refine al ?_) | (refine is_box ?_; refine bx ?_) | (refine isl_load ?_; refine ldl ?_) | (refine isl_store ?_; refine srl ?_) | (refine isl_alloc ?_; refine all' ?_) | (refine isl_box ?_; refine bxl ?_))
          exact go_stop (G := Nat) (k + 1) (by rw [hs, ← hed]; rfl) ⟨rfl, rfl, trivial⟩ ⟨hlt, rfl⟩ (by show A.cap - (k + 1) < A.cap - k; omega)
      · by_cases z2 : rr = i
        · rw [if_neg z1, if_pos z2] at hed
          repeat (first | refine sp ?_ | (refine is_load ?_; refine ld ?_) | (refine is_store ?_; refine sr ?_) | (refine is_alloc ?_; refine al ?_) | (refine is_box ?_; refine bx ?_) | (refine isl_load ?_; refine ldl ?_) | (refine isl_store ?_; refine srl ?_) | (refine isl_alloc ?_; refine all' ?_) | (refine isl_box ?_; refine bxl ?_))
          exact go_stop (G := Nat) (k + 1) (by rw [hs, ← hed]; rfl) ⟨rfl, rfl, trivial⟩ ⟨hlt, rfl⟩ (by show A.cap - (k + 1) < A.cap - k; omega)
        · rw [if_neg z1, if_neg z2] at hed
          repeat (first | refine sp ?_ | (refine is_load ?_; refine ld ?_) | (refine is_store ?_; refine sr ?_) | (refine is_alloc ?_; refine al ?_) | (refine is_box ?_; refine bx ?_) | (refine isl_load ?_; refine ldl ?_) | (refine isl_store ?_; refine srl ?_) | (refine isl_alloc ?_; refine all' ?_) | (refine isl_box ?_; refine bxl ?_))
          exact go_stop (G := Nat) (k + 1) (by rw [hs, ← hed]; rfl) ⟨rfl, rfl, trivial⟩ ⟨hlt, rfl⟩ (by show A.cap - (k + 1) < A.cap - k; omega)
  · obtain rfl : k = A.cap := by omega
    repeat (first | refine sp ?_ | (refine is_load ?_; refine ld ?_) | (refine is_store ?_; refine sr ?_) | (refine is_alloc ?_; refine al ?_) | (refine is_box ?_; refine bx ?_) | (refine isl_load ?_; refine ldl ?_) | (refine isl_store ?_; refine srl ?_) | (refine isl_alloc ?_; refine all' ?_) | (refine isl_box ?_; refine bxl ?_))
    exact go_ret1 rfl rfl ⟨_, rfl, rfl, rfl⟩

end Go.Proofs.Ytapocbahkeoeoaa
