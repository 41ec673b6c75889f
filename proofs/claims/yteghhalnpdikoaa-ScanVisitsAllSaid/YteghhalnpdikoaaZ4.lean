/-
  Lemmas and contracts of functions, no condition: the texts Lo Qe Lg Da Qf Qg Qh Qi Qj Qk Ql Qm.
-/
import Derived.Test.YteghhalnpdikoaaZ3
set_option linter.unusedVariables false

namespace Go.Proofs.Yteghhalnpdikoaa
open Go.Vc

theorem c_entry (k v : Int) (l r : Nat) (a b c d : Int) (w : World) :
    Calls Try.prog 110 [.agg ⟨[.int .i64 k, .int .i64 v, .int .u32 (l : Int), .int .u32 (r : Int), .int .i64 a, .int .i64 b, .int .i64 c, .int .i64 d]⟩].toArray w (Ret fun u w' => u = .agg ⟨entC (k, v)⟩ ∧ Ext w w') := by
  refine calls_go Try.func110 rfl Try.ntmps110 (Nat.le_of_ble_eq_true rfl) ?_
  repeat (first | refine sp ?_ | (refine is_load ?_; refine ld ?_) | (refine is_store ?_; refine sr ?_) | (refine is_alloc ?_; refine al ?_) | (refine is_box ?_; refine bx ?_) | (refine isl_load ?_; refine ldl ?_) | (refine isl_store ?_; refine srl ?_) | (refine isl_alloc ?_; refine all' ?_) | (refine isl_box ?_; refine bxl ?_) | refine dr Try.follows ?_)
  exact go_ret1 rfl ⟨_, rfl, Ld.run (ld_part (by (repeat (first | assumption | (refine At.new' (by (first | omega | (simp; done) | (simp; omega))) _ _) | apply At.alloc | apply At.drewN | apply At.setRow | (apply At.setRow_neF; first | assumption | (apply Ne.symm; assumption) | omega) | (apply At.extF; assumption)))) rfl rfl)⟩ ⟨_, rfl, rfl, by (repeat (first | exact Fr.refl _ _ | assumption | apply Fr.drewN | apply Fr.alloc | (apply Fr.transF; assumption) | (refine Fr.setRow ?_ _ (by first | exact Or.inr (by (first | omega | (simp; done) | (simp; omega))) | (exact Or.inl (by first | assumption | (simp; done)))))))⟩

/-- What a function value answers; it reads what was there, and changes nothing. -/
def Adm (w : World) (p : Nat) (f : FuncId) (cs : List Value) (P : Int → Bool) : Prop :=
  ∀ (k : Int) (w' : World), Fr (fun b => b = p ∨ w.heap.size ≤ b) w w' → Calls Try.prog f (.int .i64 k :: cs).toArray w' (Ret fun r w'' => r = .bool (P k) ∧ w'' = w')

def pK (P : Int → Bool) (e : Int × Int) : Bool := P e.1

theorem head_or {α : Type} : ∀ (a b : List α), (a ++ b).head? = a.head?.or b.head?
  | [], b => by simp
  | x :: a, b => by simp
theorem last_or {α : Type} (a b : List α) : (a ++ b).getLast? = b.getLast?.or a.getLast? := by rw [List.getLast?_append]
theorem or_assoc' {α : Type} (a b c : Option α) : (a.or b).or c = a.or (b.or c) := by cases a <;> rfl
theorem or_none' {α : Type} (a : Option α) : a.or none = a := by cases a <;> rfl
theorem some_or' {α : Type} (x : α) (a : Option α) : (some x).or a = some x := rfl

set_option maxHeartbeats 4000000 in
theorem c_greatest (w : World) (lo p : Nat) (q : AP) (A : AR) (t : Tr) (f : FuncId) [Enters Try.prog f] (cs : List Value) (P : Int → Bool) (hP : Adm w p f cs P) (hm : ∀ a b, a ≤ b → P b = true → P a = true) (ha : ArP w lo p q A) (hi : InA A t) (he : InE t.ents) (ho : Srt t.ents) (hs : t.sz ≤ 1000000) :
    Calls Try.prog 105 [ptr p, .int .u32 (t.root : Int), .func (.func f) #[] cs.toArray].toArray w (Ret (RdR w lo p q A t.ht (entV (t.ents.filter (pK P)).getLast?))) := by
  refine calls_go Try.func105 rfl Try.ntmps105 (Nat.le_of_ble_eq_true rfl) ?_
  have hpl := ha.lt p ha.fpp
  repeat (first | refine sp ?_ | (refine is_load ?_; refine ld ?_) | (refine is_store ?_; refine sr ?_) | (refine is_alloc ?_; refine al ?_) | (refine is_box ?_; refine bx ?_) | (refine isl_load ?_; refine ldl ?_) | (refine isl_store ?_; refine srl ?_) | (refine isl_alloc ?_; refine all' ?_) | (refine isl_box ?_; refine bxl ?_) | refine dr Try.follows ?_)
  refine go_loop (G := Tr × Option (Int × Int) × AR) [10, 9] (fun ⟨t', o, _⟩ => [.int .u32 (t'.root : Int), .bool o.isSome]) [(0, ptr p), (2, .func (.func f) #[] cs.toArray), (6, ptr w.heap.size), (8, ptr (w.heap.size + 1))]
    (fun ⟨t', o, B⟩ w' => InA B t' ∧ InE t'.ents ∧ Srt t'.ents ∧ ((t'.ents.filter (pK P)).getLast?).or o = (t.ents.filter (pK P)).getLast? ∧ t'.sz ≤ t.sz ∧ t'.ht ≤ t.ht ∧ Rds A B (t.ht - t'.ht) ∧ ArP w' lo p q B ∧ Fr (fun b => b = p) w w' ∧ At w' w.heap.size [.int .i64 0, .int .i64 0] 72 ∧ At w' (w.heap.size + 1) (entC (o.getD (0, 0))) 72 ∧ w.heap.size + 2 ≤ w'.heap.size)
    (fun g => g.1.sz) (t, none, A) rfl ⟨rfl, rfl, rfl, rfl, trivial⟩
    ⟨hi, he, ho, by simp, Nat.le_refl _, Nat.le_refl _, Rds.refl _ _, ha.ext (by (repeat (first | exact Fr.refl _ _ | assumption | apply Fr.drewN | apply Fr.alloc | (apply Fr.transF; assumption) | (refine Fr.setRow ?_ _ (by first | exact Or.inr (by (first | omega | (simp; done) | (simp; omega))) | (exact Or.inl (by first | assumption | (simp; done)))))))), by (repeat (first | exact Fr.refl _ _ | assumption | apply Fr.drewN | apply Fr.alloc | (apply Fr.transF; assumption) | (refine Fr.setRow ?_ _ (by first | exact Or.inr (by (first | omega | (simp; done) | (simp; omega))) | (exact Or.inl (by first | assumption | (simp; done))))))), by (repeat (first | assumption | (refine At.new' (by (first | omega | (simp; done) | (simp; omega))) _ _) | apply At.alloc | apply At.drewN | apply At.setRow | (apply At.setRow_neF; first | assumption | (apply Ne.symm; assumption) | omega) | (apply At.extF; assumption))), by show At _ _ [.int .i64 0, .int .i64 0] _; (repeat (first | assumption | (refine At.new' (by (first | omega | (simp; done) | (simp; omega))) _ _) | apply At.alloc | apply At.drewN | apply At.setRow | (apply At.setRow_neF; first | assumption | (apply Ne.symm; assumption) | omega) | (apply At.extF; assumption))), by simp⟩ ?_
  rintro ⟨t', o, B⟩ w1 ⟨hi1, he1, ho1, hsum, hn1, hht, hB, ha1, hF1, hat0, hat1, hl1⟩
  unfold entC at hat1
  cases t' with
  | nil =>
    have hfin : o = (t.ents.filter (pK P)).getLast? := by rw [← hsum]; rfl
    repeat (first | refine sp ?_ | (refine is_load ?_; refine ld ?_) | (refine is_store ?_; refine sr ?_) | (refine is_alloc ?_; refine al ?_) | (refine is_box ?_; refine bx ?_) | (refine isl_load ?_; refine ldl ?_) | (refine isl_store ?_; refine srl ?_) | (refine isl_alloc ?_; refine all' ?_) | (refine isl_box ?_; refine bxl ?_))
    refine go_ret2 rfl ⟨_, rfl, Ld.run (ld_part (by (repeat (first | assumption | (refine At.new' (by (first | omega | (simp; done) | (simp; omega))) _ _) | apply At.alloc | apply At.drewN | apply At.setRow | (apply At.setRow_neF; first | assumption | (apply Ne.symm; assumption) | omega) | (apply At.extF; assumption)))) rfl rfl)⟩ rfl ⟨_, rfl, RdR.fin ?_ ha ha1 (hB.mono (by omega)) hF1 (by (repeat (first | exact Fr.refl _ _ | assumption | apply Fr.drewN | apply Fr.alloc | (apply Fr.transF; assumption) | (refine Fr.setRow ?_ _ (by first | exact Or.inr (by (first | omega | (simp; done) | (simp; omega))) | (exact Or.inl (by first | assumption | (simp; done))))))))⟩
    rw [← hfin]; rfl
  | nd i l k v r =>
    have h0 : i ≠ 0 := by have := hi1.1; omega
    refine go_as 10 (u' := .int .u32 (i : Int)) rfl rfl ?_
    obtain ⟨hel, her, hkk, hvv⟩ := he1.nd
    obtain ⟨hol, hor, hlt, hgt⟩ := ho1.nd
    have hsz : (Tr.nd i l k v r).sz = l.sz + 1 + r.sz := rfl
    have hhd : (Tr.nd i l k v r).ht = 1 + max l.ht r.ht := rfl
    have hen : (Tr.nd i l k v r).ents = l.ents ++ (k, v) :: r.ents := rfl
    obtain ⟨hri, hrl, hrr⟩ := hi1.roots ha1.wf
    rw [hen, List.filter_append, List.filter_cons] at hsum
    repeat (first | refine sp ?_ | (refine is_load ?_; refine ld ?_) | (refine is_store ?_; refine sr ?_) | (refine is_alloc ?_; refine al ?_) | (refine is_box ?_; refine bx ?_) | (refine isl_load ?_; refine ldl ?_) | (refine isl_store ?_; refine srl ?_) | (refine isl_alloc ?_; refine all' ?_) | (refine isl_box ?_; refine bxl ?_) | refine dr Try.follows ?_)
    refine go_call rfl rfl (p_Node _ lo p q B i ha1 hri) ?_
    rintro _ w2 ⟨rfl, ha2, hf2⟩
    rw [show B.used i = true from hi1.2.1, hi1.nodeL he1 (by omega)]
    generalize smy (Tr.nd i l k v r).vals = S
    have hl2 := hf2.size
    have hi2 := hi1.read i
    have hat2 := hat0.fr hf2 (by omega)
    have hat3 := hat1.fr hf2 (by omega)
    have hB2 := hB.trans (Rds.read B i)
    repeat (first | refine sp ?_ | (refine is_load ?_; refine ld ?_) | (refine is_store ?_; refine sr ?_) | (refine is_alloc ?_; refine al ?_) | (refine is_box ?_; refine bx ?_) | (refine isl_load ?_; refine ldl ?_) | (refine isl_store ?_; refine srl ?_) | (refine isl_alloc ?_; refine all' ?_) | (refine isl_box ?_; refine bxl ?_) | refine dr Try.follows ?_)
    refine go_name (F := fun w3 => At w3 w2.heap.size [.int .i64 k, .int .i64 v, .int .u32 (l.root : Int), .int .u32 (r.root : Int), .int .i64 S.n, .int .i64 S.s, .int .i64 S.mn, .int .i64 S.mx] 102 ∧ At w3 w.heap.size [.int .i64 0, .int .i64 0] 72 ∧ At w3 (w.heap.size + 1) [.int .i64 (o.getD (0, 0)).1, .int .i64 (o.getD (0, 0)).2] 72 ∧ ArP w3 lo p q (B.read i) ∧ Fr (fun b => b = p) w w3 ∧ w2.heap.size + 1 ≤ w3.heap.size) ⟨by (repeat (first | assumption | (refine At.new' (by (first | omega | (simp; done) | (simp; omega))) _ _) | apply At.alloc | apply At.drewN | apply At.setRow | (apply At.setRow_neF; first | assumption | (apply Ne.symm; assumption) | omega) | (apply At.extF; assumption))), by (repeat (first | assumption | (refine At.new' (by (first | omega | (simp; done) | (simp; omega))) _ _) | apply At.alloc | apply At.drewN | apply At.setRow | (apply At.setRow_neF; first | assumption | (apply Ne.symm; assumption) | omega) | (apply At.extF; assumption))), by (repeat (first | assumption | (refine At.new' (by (first | omega | (simp; done) | (simp; omega))) _ _) | apply At.alloc | apply At.drewN | apply At.setRow | (apply At.setRow_neF; first | assumption | (apply Ne.symm; assumption) | omega) | (apply At.extF; assumption))), ha2.ext (by (repeat (first | exact Fr.refl _ _ | assumption | apply Fr.drewN | apply Fr.alloc | (apply Fr.transF; assumption) | (refine Fr.setRow ?_ _ (by first | exact Or.inr (by (first | omega | (simp; done) | (simp; omega))) | (exact Or.inl (by first | assumption | (simp; done)))))))), (hF1.trans hf2).trans (by (repeat (first | exact Fr.refl _ _ | assumption | apply Fr.drewN | apply Fr.alloc | (apply Fr.transF; assumption) | (refine Fr.setRow ?_ _ (by first | exact Or.inr (by (first | omega | (simp; done) | (simp; omega))) | (exact Or.inl (by first | assumption | (simp; done)))))))), by simp⟩ ?_
    rintro w3 ⟨hb1, hb2, hb3, ha3, hF3, hl3⟩
    refine go_callv (cs := cs) rfl rfl rfl (hP k w3 (hF3.mono fun b e => Or.inl e)) ?_
    rintro _ w3 ⟨rfl, rfl⟩
    cases hc : P k with
    | false =>
      rw [if_neg (by unfold pK; rw [hc]; decide)] at hsum
      repeat (first | refine sp ?_ | (refine is_load ?_; refine ld ?_) | (refine is_store ?_; refine sr ?_) | (refine is_alloc ?_; refine al ?_) | (refine is_box ?_; refine bx ?_) | (refine isl_load ?_; refine ldl ?_) | (refine isl_store ?_; refine srl ?_) | (refine isl_alloc ?_; refine all' ?_) | (refine isl_box ?_; refine bxl ?_) | refine dr Try.follows ?_)
      refine go_stop (G := Tr × Option (Int × Int) × AR) (l, o, B.read i) rfl ⟨rfl, rfl, rfl, rfl, trivial⟩ ⟨hi2.2.2.2.1, hel, hol, ?_, by omega, by omega, hB2.mono (by omega), ha3, hF3, by (repeat (first | assumption | (refine At.new' (by (first | omega | (simp; done) | (simp; omega))) _ _) | apply At.alloc | apply At.drewN | apply At.setRow | (apply At.setRow_neF; first | assumption | (apply Ne.symm; assumption) | omega) | (apply At.extF; assumption))), by (repeat (first | assumption | (refine At.new' (by (first | omega | (simp; done) | (simp; omega))) _ _) | apply At.alloc | apply At.drewN | apply At.setRow | (apply At.setRow_neF; first | assumption | (apply Ne.symm; assumption) | omega) | (apply At.extF; assumption))), by omega⟩ (by show l.sz < l.sz + 1 + r.sz; omega)
      have hnil : r.ents.filter (pK P) = [] := List.filter_eq_nil_iff.2 fun e he h2 => by
        have h1 := hgt e he
        have := hm k e.1 (by omega) h2
        rw [hc] at this; cases this
      rw [hnil, List.append_nil] at hsum
      exact hsum
    | true =>
      rw [if_pos (by unfold pK; exact hc)] at hsum
      repeat (first | refine sp ?_ | (refine is_load ?_; refine ld ?_) | (refine is_store ?_; refine sr ?_) | (refine is_alloc ?_; refine al ?_) | (refine is_box ?_; refine bx ?_) | (refine isl_load ?_; refine ldl ?_) | (refine isl_store ?_; refine srl ?_) | (refine isl_alloc ?_; refine all' ?_) | (refine isl_box ?_; refine bxl ?_) | refine dr Try.follows ?_)
      refine go_call rfl rfl (c_entry k v l.root r.root S.n S.s S.mn S.mx w3) ?_
      rintro _ w4 ⟨rfl, hx4⟩
      have hc1 := hb1.ext hx4
      have hc2 := hb2.ext hx4
      have hc3 := hb3.ext hx4
      have ha4 := ha3.ext hx4
      have hF4 := hF3.trans (Fr.of_ext hx4)
      have hl4 := hx4.size
      unfold entC
      repeat (first | refine sp ?_ | (refine is_load ?_; refine ld ?_) | (refine is_store ?_; refine sr ?_) | (refine is_alloc ?_; refine al ?_) | (refine is_box ?_; refine bx ?_) | (refine isl_load ?_; refine ldl ?_) | (refine isl_store ?_; refine srl ?_) | (refine isl_alloc ?_; refine all' ?_) | (refine isl_box ?_; refine bxl ?_) | refine dr Try.follows ?_)
      refine go_stop (G := Tr × Option (Int × Int) × AR) (r, some (k, v), B.read i) rfl ⟨rfl, rfl, rfl, rfl, trivial⟩ ⟨hi2.2.2.2.2, her, hor, ?_, by omega, by omega, hB2.mono (by omega), ha4.fr (S := fun b => w.heap.size ≤ b) (by (repeat (first | exact Fr.refl _ _ | assumption | apply Fr.drewN | apply Fr.alloc | (apply Fr.transF; assumption) | (refine Fr.setRow ?_ _ (by first | exact Or.inr (by (first | omega | (simp; done) | (simp; omega))) | (exact Or.inl (by first | assumption | (simp; done)))))))) (fun b hb e => by have := ha.lt b hb; omega), hF4.trans' (S' := fun b => w.heap.size ≤ b) (by (repeat (first | exact Fr.refl _ _ | assumption | apply Fr.drewN | apply Fr.alloc | (apply Fr.transF; assumption) | (refine Fr.setRow ?_ _ (by first | exact Or.inr (by (first | omega | (simp; done) | (simp; omega))) | (exact Or.inl (by first | assumption | (simp; done)))))))) (fun b hb e => by omega), by (repeat (first | assumption | (refine At.new' (by (first | omega | (simp; done) | (simp; omega))) _ _) | apply At.alloc | apply At.drewN | apply At.setRow | (apply At.setRow_neF; first | assumption | (apply Ne.symm; assumption) | omega) | (apply At.extF; assumption))), by show At _ _ [.int .i64 k, .int .i64 v] _; (repeat (first | assumption | (refine At.new' (by (first | omega | (simp; done) | (simp; omega))) _ _) | apply At.alloc | apply At.drewN | apply At.setRow | (apply At.setRow_neF; first | assumption | (apply Ne.symm; assumption) | omega) | (apply At.extF; assumption))), by simp; omega⟩ (by show r.sz < l.sz + 1 + r.sz; omega)
      rw [last_or, List.getLast?_cons] at hsum
      rw [← hsum]
      cases (r.ents.filter (pK P)).getLast? <;> rfl

/-! ### The functions -/

set_option maxHeartbeats 1000000 in
theorem c_Floor (w : World) (lo p : Nat) (q : AP) (A : AR) (t : Tr) (x : Int) (ha : ArP w lo p q A) (hi : InA A t) (he : InE t.ents) (ho : Srt t.ents) (hs : t.sz ≤ 1000000) :
    Calls Try.prog 100 [ptr p, .int .u32 (t.root : Int), .int .i64 x].toArray w (Ret (RdR w lo p q A t.ht (entV (t.ents.filter (pK (fun k => decide (k ≤ x)))).getLast?))) := by
  have hpl := ha.lt p ha.fpp
  have hAdm : Adm ((w.alloc (.cells [Value.int .i64 x].toArray 2)).alloc (.cells [Value.int .i64 0, .int .i64 0].toArray 72)) p 106 [ptr w.heap.size] (fun k => decide (k ≤ x)) := by
    intro k w' hf
    have hat : At w' w.heap.size [.int .i64 x] 2 := At.fr (w := (w.alloc (.cells [Value.int .i64 x].toArray 2)).alloc (.cells [Value.int .i64 0, .int .i64 0].toArray 72)) (by (repeat (first | assumption | (refine At.new' (by (first | omega | (simp; done) | (simp; omega))) _ _) | apply At.alloc | apply At.drewN | apply At.setRow | (apply At.setRow_neF; first | assumption | (apply Ne.symm; assumption) | omega) | (apply At.extF; assumption)))) hf (by simp; omega)
    refine calls_go Try.func106 rfl Try.ntmps106 (Nat.le_of_ble_eq_true rfl) ?_
    by_cases hk : k ≤ x
    · repeat (first | refine sp ?_ | (refine is_load ?_; refine ld ?_) | (refine is_store ?_; refine sr ?_) | (refine is_alloc ?_; refine al ?_) | (refine is_box ?_; refine bx ?_) | (refine isl_load ?_; refine ldl ?_) | (refine isl_store ?_; refine srl ?_) | (refine isl_alloc ?_; refine all' ?_) | (refine isl_box ?_; refine bxl ?_) | refine dr Try.follows ?_)
      exact go_ret1 rfl rfl ⟨_, rfl, by simp [hk], rfl⟩
    · repeat (first | refine sp ?_ | (refine is_load ?_; refine ld ?_) | (refine is_store ?_; refine sr ?_) | (refine is_alloc ?_; refine al ?_) | (refine is_box ?_; refine bx ?_) | (refine isl_load ?_; refine ldl ?_) | (refine isl_store ?_; refine srl ?_) | (refine isl_alloc ?_; refine all' ?_) | (refine isl_box ?_; refine bxl ?_) | refine dr Try.follows ?_)
      exact go_ret1 rfl rfl ⟨_, rfl, by simp [hk], rfl⟩
  refine calls_go Try.func100 rfl Try.ntmps100 (Nat.le_of_ble_eq_true rfl) ?_
  repeat (first | refine sp ?_ | (refine is_load ?_; refine ld ?_) | (refine is_store ?_; refine sr ?_) | (refine is_alloc ?_; refine al ?_) | (refine is_box ?_; refine bx ?_) | (refine isl_load ?_; refine ldl ?_) | (refine isl_store ?_; refine srl ?_) | (refine isl_alloc ?_; refine all' ?_) | (refine isl_box ?_; refine bxl ?_) | refine dr Try.follows ?_)
  refine go_p rfl (pr_makeFunc (cs := [.tmp 5]) (vs := [ptr w.heap.size]) rfl) ?_
  repeat (first | refine sp ?_ | (refine is_load ?_; refine ld ?_) | (refine is_store ?_; refine sr ?_) | (refine is_alloc ?_; refine al ?_) | (refine is_box ?_; refine bx ?_) | (refine isl_load ?_; refine ldl ?_) | (refine isl_store ?_; refine srl ?_) | (refine isl_alloc ?_; refine all' ?_) | (refine isl_box ?_; refine bxl ?_) | refine dr Try.follows ?_)
  refine go_call rfl rfl (c_greatest _ lo p q A t 106 [ptr w.heap.size] _ hAdm (fun a b h1 h2 => by simp at h2 ⊢; omega) (ha.ext (by (repeat (first | exact Fr.refl _ _ | assumption | apply Fr.drewN | apply Fr.alloc | (apply Fr.transF; assumption) | (refine Fr.setRow ?_ _ (by first | exact Or.inr (by (first | omega | (simp; done) | (simp; omega))) | (exact Or.inl (by first | assumption | (simp; done))))))))) hi he ho hs) ?_
  rintro _ w1 ⟨rfl, B, ha1, hB, hf1⟩
  have hF1 : Fr (fun b => b = p) w w1 := Fr.trans (by (repeat (first | exact Fr.refl _ _ | assumption | apply Fr.drewN | apply Fr.alloc | (apply Fr.transF; assumption) | (refine Fr.setRow ?_ _ (by first | exact Or.inr (by (first | omega | (simp; done) | (simp; omega))) | (exact Or.inl (by first | assumption | (simp; done)))))))) hf1
  have hret : At w1 (w.heap.size + 1) [.int .i64 0, .int .i64 0] 72 := At.fr (w := (w.alloc (.cells [Value.int .i64 x].toArray 2)).alloc (.cells [Value.int .i64 0, .int .i64 0].toArray 72)) (by (repeat (first | assumption | (refine At.new' (by (first | omega | (simp; done) | (simp; omega))) _ _) | apply At.alloc | apply At.drewN | apply At.setRow | (apply At.setRow_neF; first | assumption | (apply Ne.symm; assumption) | omega) | (apply At.extF; assumption)))) hf1 (by omega)
  generalize (t.ents.filter (pK (fun k => decide (k ≤ x)))).getLast? = o
  unfold entV
  repeat (first | refine sp ?_ | (refine is_load ?_; refine ld ?_) | (refine is_store ?_; refine sr ?_) | (refine is_alloc ?_; refine al ?_) | (refine is_box ?_; refine bx ?_) | (refine isl_load ?_; refine ldl ?_) | (refine isl_store ?_; refine srl ?_) | (refine isl_alloc ?_; refine all' ?_) | (refine isl_box ?_; refine bxl ?_) | refine dr Try.follows ?_)
  exact go_ret2 rfl ⟨_, rfl, Ld.run (ld_part (by (repeat (first | assumption | (refine At.new' (by (first | omega | (simp; done) | (simp; omega))) _ _) | apply At.alloc | apply At.drewN | apply At.setRow | (apply At.setRow_neF; first | assumption | (apply Ne.symm; assumption) | omega) | (apply At.extF; assumption)))) rfl rfl)⟩ rfl ⟨_, rfl, RdR.fin rfl ha ha1 hB hF1 (by (repeat (first | exact Fr.refl _ _ | assumption | apply Fr.drewN | apply Fr.alloc | (apply Fr.transF; assumption) | (refine Fr.setRow ?_ _ (by first | exact Or.inr (by (first | omega | (simp; done) | (simp; omega))) | (exact Or.inl (by first | assumption | (simp; done))))))))⟩

set_option maxHeartbeats 1000000 in
theorem c_Below (w : World) (lo p : Nat) (q : AP) (A : AR) (t : Tr) (x : Int) (ha : ArP w lo p q A) (hi : InA A t) (he : InE t.ents) (ho : Srt t.ents) (hs : t.sz ≤ 1000000) :
    Calls Try.prog 101 [ptr p, .int .u32 (t.root : Int), .int .i64 x].toArray w (Ret (RdR w lo p q A t.ht (entV (t.ents.filter (pK (fun k => decide (k < x)))).getLast?))) := by
  have hpl := ha.lt p ha.fpp
  have hAdm : Adm ((w.alloc (.cells [Value.int .i64 x].toArray 2)).alloc (.cells [Value.int .i64 0, .int .i64 0].toArray 72)) p 107 [ptr w.heap.size] (fun k => decide (k < x)) := by
    intro k w' hf
    have hat : At w' w.heap.size [.int .i64 x] 2 := At.fr (w := (w.alloc (.cells [Value.int .i64 x].toArray 2)).alloc (.cells [Value.int .i64 0, .int .i64 0].toArray 72)) (by (repeat (first | assumption | (refine At.new' (by (first | omega | (simp; done) | (simp; omega))) _ _) | apply At.alloc | apply At.drewN | apply At.setRow | (apply At.setRow_neF; first | assumption | (apply Ne.symm; assumption) | omega) | (apply At.extF; assumption)))) hf (by simp; omega)
    refine calls_go Try.func107 rfl Try.ntmps107 (Nat.le_of_ble_eq_true rfl) ?_
    by_cases hk : k < x
    · repeat (first | refine sp ?_ | (refine is_load ?_; refine ld ?_) | (refine is_store ?_; refine sr ?_) | (refine is_alloc ?_; refine al ?_) | (refine is_box ?_; refine bx ?_) | (refine isl_load ?_; refine ldl ?_) | (refine isl_store ?_; refine srl ?_) | (refine isl_alloc ?_; refine all' ?_) | (refine isl_box ?_; refine bxl ?_) | refine dr Try.follows ?_)
      exact go_ret1 rfl rfl ⟨_, rfl, by simp [hk], rfl⟩
    · repeat (first | refine sp ?_ | (refine is_load ?_; refine ld ?_) | (refine is_store ?_; refine sr ?_) | (refine is_alloc ?_; refine al ?_) | (refine is_box ?_; refine bx ?_) | (refine isl_load ?_; refine ldl ?_) | (refine isl_store ?_; refine srl ?_) | (refine isl_alloc ?_; refine all' ?_) | (refine isl_box ?_; refine bxl ?_) | refine dr Try.follows ?_)
      exact go_ret1 rfl rfl ⟨_, rfl, by simp [hk], rfl⟩
  refine calls_go Try.func101 rfl Try.ntmps101 (Nat.le_of_ble_eq_true rfl) ?_
  repeat (first | refine sp ?_ | (refine is_load ?_; refine ld ?_) | (refine is_store ?_; refine sr ?_) | (refine is_alloc ?_; refine al ?_) | (refine is_box ?_; refine bx ?_) | (refine isl_load ?_; refine ldl ?_) | (refine isl_store ?_; refine srl ?_) | (refine isl_alloc ?_; refine all' ?_) | (refine isl_box ?_; refine bxl ?_) | refine dr Try.follows ?_)
  refine go_p rfl (pr_makeFunc (cs := [.tmp 5]) (vs := [ptr w.heap.size]) rfl) ?_
  repeat (first | refine sp ?_ | (refine is_load ?_; refine ld ?_) | (refine is_store ?_; refine sr ?_) | (refine is_alloc ?_; refine al ?_) | (refine is_box ?_; refine bx ?_) | (refine isl_load ?_; refine ldl ?_) | (refine isl_store ?_; refine srl ?_) | (refine isl_alloc ?_; refine all' ?_) | (refine isl_box ?_; refine bxl ?_) | refine dr Try.follows ?_)
  refine go_call rfl rfl (c_greatest _ lo p q A t 107 [ptr w.heap.size] _ hAdm (fun a b h1 h2 => by simp at h2 ⊢; omega) (ha.ext (by (repeat (first | exact Fr.refl _ _ | assumption | apply Fr.drewN | apply Fr.alloc | (apply Fr.transF; assumption) | (refine Fr.setRow ?_ _ (by first | exact Or.inr (by (first | omega | (simp; done) | (simp; omega))) | (exact Or.inl (by first | assumption | (simp; done))))))))) hi he ho hs) ?_
  rintro _ w1 ⟨rfl, B, ha1, hB, hf1⟩
  have hF1 : Fr (fun b => b = p) w w1 := Fr.trans (by (repeat (first | exact Fr.refl _ _ | assumption | apply Fr.drewN | apply Fr.alloc | (apply Fr.transF; assumption) | (refine Fr.setRow ?_ _ (by first | exact Or.inr (by (first | omega | (simp; done) | (simp; omega))) | (exact Or.inl (by first | assumption | (simp; done)))))))) hf1
  have hret : At w1 (w.heap.size + 1) [.int .i64 0, .int .i64 0] 72 := At.fr (w := (w.alloc (.cells [Value.int .i64 x].toArray 2)).alloc (.cells [Value.int .i64 0, .int .i64 0].toArray 72)) (by (repeat (first | assumption | (refine At.new' (by (first | omega | (simp; done) | (simp; omega))) _ _) | apply At.alloc | apply At.drewN | apply At.setRow | (apply At.setRow_neF; first | assumption | (apply Ne.symm; assumption) | omega) | (apply At.extF; assumption)))) hf1 (by omega)
  generalize (t.ents.filter (pK (fun k => decide (k < x)))).getLast? = o
  unfold entV
  repeat (first | refine sp ?_ | (refine is_load ?_; refine ld ?_) | (refine is_store ?_; refine sr ?_) | (refine is_alloc ?_; refine al ?_) | (refine is_box ?_; refine bx ?_) | (refine isl_load ?_; refine ldl ?_) | (refine isl_store ?_; refine srl ?_) | (refine isl_alloc ?_; refine all' ?_) | (refine isl_box ?_; refine bxl ?_) | refine dr Try.follows ?_)
  exact go_ret2 rfl ⟨_, rfl, Ld.run (ld_part (by (repeat (first | assumption | (refine At.new' (by (first | omega | (simp; done) | (simp; omega))) _ _) | apply At.alloc | apply At.drewN | apply At.setRow | (apply At.setRow_neF; first | assumption | (apply Ne.symm; assumption) | omega) | (apply At.extF; assumption)))) rfl rfl)⟩ rfl ⟨_, rfl, RdR.fin rfl ha ha1 hB hF1 (by (repeat (first | exact Fr.refl _ _ | assumption | apply Fr.drewN | apply Fr.alloc | (apply Fr.transF; assumption) | (refine Fr.setRow ?_ _ (by first | exact Or.inr (by (first | omega | (simp; done) | (simp; omega))) | (exact Or.inl (by first | assumption | (simp; done))))))))⟩

end Go.Proofs.Yteghhalnpdikoaa

namespace Go.Proofs.Yteghhalnpdikoaa
open Go.Vc

def inR (x y : Int) (e : Int × Int) : Bool := decide (x ≤ e.1 ∧ e.1 ≤ y)
def rng (x y : Int) (l : List (Int × Int)) : List (Int × Int) := l.filter (inR x y)
/-- At most 'm' entries in all. -/
def tk (m : Nat) (o a : List (Int × Int)) : List (Int × Int) := o ++ a.take (m - o.length)
theorem tk_nil (m : Nat) (o : List (Int × Int)) : tk m o [] = o := by simp [tk]
theorem tk_full {m : Nat} {o : List (Int × Int)} (a : List (Int × Int)) (h : m ≤ o.length) : tk m o a = o := by simp [tk, Nat.sub_eq_zero_of_le h]
theorem tk_one {m : Nat} {o : List (Int × Int)} (e : Int × Int) (h : o.length < m) : tk m o [e] = o ++ [e] := by
  unfold tk; rw [List.take_of_length_le (by simp; omega)]
theorem tk_tk (m : Nat) (o a c : List (Int × Int)) : tk m (tk m o a) c = tk m o (a ++ c) := by
  unfold tk
  rw [List.take_append, List.append_assoc]
  congr 3
  simp only [List.length_append, List.length_take]
  omega
theorem tk_len {m : Nat} {o : List (Int × Int)} (a : List (Int × Int)) (h : o.length ≤ m) : (tk m o a).length ≤ m := by
  unfold tk; simp; omega
theorem rng_nd {i : Nat} {l r : Tr} {k v : Int} (x y : Int) : rng x y (Tr.nd i l k v r).ents = rng x y l.ents ++ (rng x y [(k, v)] ++ rng x y r.ents) := by
  show List.filter _ (l.ents ++ ([(k, v)] ++ r.ents)) = _
  rw [List.filter_append, List.filter_append]; rfl
theorem rng_none {x y : Int} {l : List (Int × Int)} (h : ∀ e ∈ l, e.1 < x ∨ y < e.1) : rng x y l = [] :=
  List.filter_eq_nil_iff.2 fun e he => by have := h e he; simp [inR]; omega

theorem OwnE.nec {w : World} {lo b : Nat} {v : Value} {P : List (Int × Int)} {C : List Value} {T : TypeId} (h : OwnE w lo v P) (hb : At w b C T) (hT : T ≠ 72) : v.ownBlock ≠ some b := by
  intro e
  obtain ⟨_, C', hat⟩ := Own.block_lt h e
  exact hb.ne hat hT rfl
theorem OwnE.fr' {w w' : World} {lo : Nat} {v : Value} {P : List (Int × Int)} {S : Nat → Prop} (h : OwnE w lo v P) (f : Fr S w w') (ho : ∀ x, v.ownBlock = some x → ¬ S x) : OwnE w' lo v P :=
  Own.of_heap h fun g hg => f.block g (Own.block_lt h hg).1 (ho g hg)
theorem OwnE.los {w : World} {lo x : Nat} {v : Value} {P : List (Int × Int)} (h : OwnE w lo v P) (hx : v.ownBlock = some x) : lo ≤ x ∧ x < w.heap.size :=
  World.ownsRow.lt h x hx
structure LiAt (w : World) (lo0 b p : Nat) (v : Value) (lim : Nat) (out : List (Int × Int)) : Prop where
  at' : At w b [ptr p, v, .int .i64 (lim : Int)] 151
  own : OwnE w lo0 v out
theorem LiAt.nb {w : World} {lo0 b p : Nat} {v : Value} {lim : Nat} {out : List (Int × Int)} (h : LiAt w lo0 b p v lim out) : v.ownBlock ≠ some b := h.own.nec h.at' (by decide)
theorem LiAt.fr {w w' : World} {lo0 b p : Nat} {v : Value} {lim : Nat} {out : List (Int × Int)} {S : Nat → Prop} (h : LiAt w lo0 b p v lim out) (f : Fr S w w') (h1 : ¬ S b) (h2 : ∀ x, v.ownBlock = some x → ¬ S x) : LiAt w' lo0 b p v lim out :=
  ⟨h.at'.fr f h1, h.own.fr' f h2⟩
theorem LiAt.ext {w w' : World} {lo0 b p : Nat} {v : Value} {lim : Nat} {out : List (Int × Int)} (h : LiAt w lo0 b p v lim out) (f : Ext w w') : LiAt w' lo0 b p v lim out :=
  h.fr f id fun _ _ => id

theorem l_full (w : World) (lo0 b p : Nat) (v : Value) (lim : Nat) (out : List (Int × Int)) (h : LiAt w lo0 b p v lim out) :
    Calls Try.prog 108 [ptr b].toArray w (Ret fun r w' => r = .bool (decide (lim ≤ out.length)) ∧ Ext w w') := by
  have hb := h.at'
  obtain ⟨sv, cv, rfl, _, _⟩ := Own.slice h.own
  have hl := hb.lt
  refine calls_go Try.func108 rfl Try.ntmps108 (Nat.le_of_ble_eq_true rfl) ?_
  by_cases hc : lim ≤ out.length
  · rw [decide_eq_true hc]
    repeat (first | refine sp ?_ | (refine is_load ?_; refine ld ?_) | (refine is_store ?_; refine sr ?_) | (refine is_alloc ?_; refine al ?_) | (refine is_box ?_; refine bx ?_) | (refine isl_load ?_; refine ldl ?_) | (refine isl_store ?_; refine srl ?_) | (refine isl_alloc ?_; refine all' ?_) | (refine isl_box ?_; refine bxl ?_) | refine dr Try.follows ?_)
    exact go_ret1 rfl rfl ⟨_, rfl, rfl, by (repeat (first | exact Fr.refl _ _ | assumption | apply Fr.drewN | apply Fr.alloc | (apply Fr.transF; assumption) | (refine Fr.setRow ?_ _ (by first | exact Or.inr (by (first | omega | (simp; done) | (simp; omega))) | (exact Or.inl (by first | assumption | (simp; done)))))))⟩
  · rw [decide_eq_false hc]
    repeat (first | refine sp ?_ | (refine is_load ?_; refine ld ?_) | (refine is_store ?_; refine sr ?_) | (refine is_alloc ?_; refine al ?_) | (refine is_box ?_; refine bx ?_) | (refine isl_load ?_; refine ldl ?_) | (refine isl_store ?_; refine srl ?_) | (refine isl_alloc ?_; refine all' ?_) | (refine isl_box ?_; refine bxl ?_) | refine dr Try.follows ?_)
    exact go_ret1 rfl rfl ⟨_, rfl, rfl, by (repeat (first | exact Fr.refl _ _ | assumption | apply Fr.drewN | apply Fr.alloc | (apply Fr.transF; assumption) | (refine Fr.setRow ?_ _ (by first | exact Or.inr (by (first | omega | (simp; done) | (simp; omega))) | (exact Or.inl (by first | assumption | (simp; done)))))))⟩

set_option maxHeartbeats 4000000 in
theorem l_keys (lo0 b lo p : Nat) (q : AP) (lim : Nat) (x y : Int) (hlim : lim ≤ 1000000) (hbq : ¬ q.fp b) : ∀ (t : Tr) (w : World) (A : AR) (v : Value) (out : List (Int × Int)), LiAt w lo0 b p v lim out → ArP w lo p q A → (∀ z, v.ownBlock = some z → ¬ q.fp z) → lo0 ≤ w.heap.size → InA A t → InE t.ents → Srt t.ents → t.sz ≤ 1000000 → out.length ≤ lim →
    Calls Try.prog 102 [ptr b, .int .u32 (t.root : Int), .int .i64 x, .int .i64 y].toArray w (Ret fun r w' => r = .tuple #[] ∧ ∃ v' A', LiAt w' lo0 b p v' lim (tk lim out (rng x y t.ents)) ∧ ArP w' lo p q A' ∧ Rds A A' t.sz ∧ (∀ z, v'.ownBlock = some z → v.ownBlock = some z ∨ w.heap.size ≤ z) ∧ Fr (fun z => z = b ∨ z = p ∨ v.ownBlock = some z) w w') := by
  intro t
  induction t with
  | nil =>
    intro w A v out h ha hd hlo hi he ho hs hol
    have hb := h.at'
    have hbl := hb.lt
    refine calls_go Try.func102 rfl Try.ntmps102 (Nat.le_of_ble_eq_true rfl) ?_
    rw [show rng x y Tr.nil.ents = [] from rfl, tk_nil, show (Tr.nil).root = 0 from rfl]
    repeat (first | refine sp ?_ | (refine is_load ?_; refine ld ?_) | (refine is_store ?_; refine sr ?_) | (refine is_alloc ?_; refine al ?_) | (refine is_box ?_; refine bx ?_) | (refine isl_load ?_; refine ldl ?_) | (refine isl_store ?_; refine srl ?_) | (refine isl_alloc ?_; refine all' ?_) | (refine isl_box ?_; refine bxl ?_))
    exact go_ret0 rfl ⟨_, rfl, rfl, v, A, h, ha, Rds.refl _ _, fun z hz => Or.inl hz, by (repeat (first | exact Fr.refl _ _ | assumption | apply Fr.drewN | apply Fr.alloc | (apply Fr.transF; assumption) | (refine Fr.setRow ?_ _ (by first | exact Or.inr (by (first | omega | (simp; done) | (simp; omega))) | (exact Or.inl (by first | assumption | (simp; done)))))))⟩
  | nd i l k u r ihl ihr =>
    intro w A v out h ha hd hlo hi he ho hs hol
    have hb := h.at'
    have hbl := hb.lt
    have hpb : p ≠ b := fun e => hbq (e ▸ ha.fpp)
    have h0 : i ≠ 0 := by have := hi.1; omega
    obtain ⟨hel, her, hkk, huu⟩ := he.nd
    obtain ⟨hsl, hsr, hlt, hgt⟩ := ho.nd
    have hsz : (Tr.nd i l k u r).sz = l.sz + 1 + r.sz := rfl
    obtain ⟨hri, hrl, hrr⟩ := hi.roots ha.wf
    have hpl := ha.lt p ha.fpp
    have hqz : ∀ z, v.ownBlock = some z → z ≠ p := fun z hz e => hd z hz (e ▸ ha.fpp)
    refine calls_go Try.func102 rfl Try.ntmps102 (Nat.le_of_ble_eq_true rfl) ?_
    rw [show (Tr.nd i l k u r).root = i from rfl]
    repeat (first | refine sp ?_ | (refine is_load ?_; refine ld ?_) | (refine is_store ?_; refine sr ?_) | (refine is_alloc ?_; refine al ?_) | (refine is_box ?_; refine bx ?_) | (refine isl_load ?_; refine ldl ?_) | (refine isl_store ?_; refine srl ?_) | (refine isl_alloc ?_; refine all' ?_) | (refine isl_box ?_; refine bxl ?_))
    refine go_call rfl rfl (l_full w lo0 b p v lim out h) ?_
    rintro _ w1 ⟨rfl, hx1⟩
    have hs1 := hx1.size
    by_cases hf : lim ≤ out.length
    · rw [decide_eq_true hf, tk_full _ hf]
      repeat (first | refine sp ?_ | (refine is_load ?_; refine ld ?_) | (refine is_store ?_; refine sr ?_) | (refine is_alloc ?_; refine al ?_) | (refine is_box ?_; refine bx ?_) | (refine isl_load ?_; refine ldl ?_) | (refine isl_store ?_; refine srl ?_) | (refine isl_alloc ?_; refine all' ?_) | (refine isl_box ?_; refine bxl ?_))
      exact go_ret0 rfl ⟨_, rfl, rfl, v, A, h.ext hx1, ha.ext hx1, Rds.refl _ _, fun z hz => Or.inl hz, Fr.of_ext hx1⟩
    rw [decide_eq_false hf]
    have hb1 := hb.ext hx1
    repeat (first | refine sp ?_ | (refine is_load ?_; refine ld ?_) | (refine is_store ?_; refine sr ?_) | (refine is_alloc ?_; refine al ?_) | (refine is_box ?_; refine bx ?_) | (refine isl_load ?_; refine ldl ?_) | (refine isl_store ?_; refine srl ?_) | (refine isl_alloc ?_; refine all' ?_) | (refine isl_box ?_; refine bxl ?_))
    refine go_call rfl rfl (p_Node _ lo p q A i (ha.ext hx1) hri) ?_
    rintro _ w2 ⟨rfl, ha2, hf2⟩
    rw [show A.used i = true from hi.2.1, hi.nodeL he (by omega)]
    generalize smy (Tr.nd i l k u r).vals = S
    have hl2 := hf2.size
    have h2 : LiAt w2 lo0 b p v lim out := (h.ext hx1).fr hf2 (fun e => hpb e.symm) hqz
    have hF2 : Fr (fun z => z = b ∨ z = p ∨ v.ownBlock = some z) w w2 := (Fr.of_ext hx1).trans (hf2.mono fun z e => Or.inr (Or.inl e))
    have hi2 := hi.read i
    have hR2 := Rds.read A i
    repeat (first | refine sp ?_ | (refine is_load ?_; refine ld ?_) | (refine is_store ?_; refine sr ?_) | (refine is_alloc ?_; refine al ?_) | (refine is_box ?_; refine bx ?_) | (refine isl_load ?_; refine ldl ?_) | (refine isl_store ?_; refine srl ?_) | (refine isl_alloc ?_; refine all' ?_) | (refine isl_box ?_; refine bxl ?_))
    refine go_name (F := fun w3 => At w3 w2.heap.size [.int .i64 k, .int .i64 u, .int .u32 (l.root : Int), .int .u32 (r.root : Int), .int .i64 S.n, .int .i64 S.s, .int .i64 S.mn, .int .i64 S.mx] 102 ∧ Ext w2 w3 ∧ w2.heap.size < w3.heap.size) ⟨by (repeat (first | assumption | (refine At.new' (by (first | omega | (simp; done) | (simp; omega))) _ _) | apply At.alloc | apply At.drewN | apply At.setRow | (apply At.setRow_neF; first | assumption | (apply Ne.symm; assumption) | omega) | (apply At.extF; assumption))), by (repeat (first | exact Fr.refl _ _ | assumption | apply Fr.drewN | apply Fr.alloc | (apply Fr.transF; assumption) | (refine Fr.setRow ?_ _ (by first | exact Or.inr (by (first | omega | (simp; done) | (simp; omega))) | (exact Or.inl (by first | assumption | (simp; done))))))), by simp⟩ ?_
    rintro w3 ⟨hn3, hx3, hl3⟩
    have h3 := h2.ext hx3
    have ha3 := ha2.ext hx3
    have hF3 := hF2.trans (Fr.of_ext hx3)
    generalize hnb : w2.heap.size = nb at *
    have hnbw : w.heap.size ≤ nb := by omega
    clear h2 ha2 hF2 hb hb1
    refine go_cut (G := Value × AR) [] (fun _ => []) [(0, ptr b), (2, .int .i64 x), (3, .int .i64 y), (8, ptr nb)]
      (fun ⟨v', A'⟩ w' => LiAt w' lo0 b p v' lim (tk lim out (rng x y l.ents)) ∧ ArP w' lo p q A' ∧ Rds A A' (1 + l.sz) ∧ (∀ z, v'.ownBlock = some z → v.ownBlock = some z ∨ (w.heap.size ≤ z ∧ z ≠ nb)) ∧ Fr (fun z => z = b ∨ z = p ∨ v.ownBlock = some z) w w' ∧ At w' nb [.int .i64 k, .int .i64 u, .int .u32 (l.root : Int), .int .u32 (r.root : Int), .int .i64 S.n, .int .i64 S.s, .int .i64 S.mn, .int .i64 S.mx] 102) ?_ ?_
    · by_cases hc : x < k
      · repeat (first | refine sp ?_ | (refine is_load ?_; refine ld ?_) | (refine is_store ?_; refine sr ?_) | (refine is_alloc ?_; refine al ?_) | (refine is_box ?_; refine bx ?_) | (refine isl_load ?_; refine ldl ?_) | (refine isl_store ?_; refine srl ?_) | (refine isl_alloc ?_; refine all' ?_) | (refine isl_box ?_; refine bxl ?_))
        refine go_call rfl rfl (ihl w3 (A.read i) v out h3 ha3 hd (by omega) hi2.2.2.2.1 hel hsl (by omega) hol) ?_
        rintro _ w4 ⟨rfl, v4, A4, h4, ha4, hR4, hv4, hf4⟩
        repeat (first | refine sp ?_ | (refine is_load ?_; refine ld ?_) | (refine is_store ?_; refine sr ?_) | (refine is_alloc ?_; refine al ?_) | (refine is_box ?_; refine bx ?_) | (refine isl_load ?_; refine ldl ?_) | (refine isl_store ?_; refine srl ?_) | (refine isl_alloc ?_; refine all' ?_) | (refine isl_box ?_; refine bxl ?_))
        refine go_stop (G := Value × AR) (v4, A4) rfl ⟨rfl, rfl, rfl, rfl, trivial⟩ ⟨h4, ha4, hR2.trans hR4, fun z hz => ?_, hF3.trans hf4, hn3.fr hf4 ?_⟩ trivial
        · rcases hv4 z hz with e | e
          · exact Or.inl e
          · exact Or.inr ⟨by omega, by omega⟩
        · rintro (e | e | e)
          · omega
          · have := ha.lt p ha.fpp; omega
          · have := (h.own.los e).2; omega
      · rw [rng_none (x := x) (y := y) (l := l.ents) (fun e he => by have := hlt e he; omega), tk_nil]
        repeat (first | refine sp ?_ | (refine is_load ?_; refine ld ?_) | (refine is_store ?_; refine sr ?_) | (refine is_alloc ?_; refine al ?_) | (refine is_box ?_; refine bx ?_) | (refine isl_load ?_; refine ldl ?_) | (refine isl_store ?_; refine srl ?_) | (refine isl_alloc ?_; refine all' ?_) | (refine isl_box ?_; refine bxl ?_))
        exact go_stop (G := Value × AR) (v, A.read i) rfl ⟨rfl, rfl, rfl, rfl, trivial⟩ ⟨h3, ha3, hR2.mono (by omega), fun z hz => Or.inl hz, hF3, hn3⟩ trivial
    rintro ⟨v4, A4⟩ w4 ⟨h4, ha4, hR4, hv4, hF4, hn4⟩
    have hd4 : ∀ z, v4.ownBlock = some z → ¬ q.fp z := fun z hz e => by
      rcases hv4 z hz with h | h
      · exact hd z h e
      · have := ha.lt z e; omega
    have hol4 := tk_len (m := lim) (rng x y l.ents) hol
    clear h3 ha3 hF3 hn3
    refine go_seq ?_
    refine go_cut (G := Value) [] (fun _ => []) [(0, ptr b), (2, .int .i64 x), (3, .int .i64 y), (8, ptr nb)]
      (fun v' w' => LiAt w' lo0 b p v' lim (tk lim out (rng x y l.ents ++ rng x y [(k, u)])) ∧ ArP w' lo p q A4 ∧ (∀ z, v'.ownBlock = some z → v.ownBlock = some z ∨ (w.heap.size ≤ z ∧ z ≠ nb)) ∧ Fr (fun z => z = b ∨ z = p ∨ v.ownBlock = some z) w w' ∧ At w' nb [.int .i64 k, .int .i64 u, .int .u32 (l.root : Int), .int .u32 (r.root : Int), .int .i64 S.n, .int .i64 S.s, .int .i64 S.mn, .int .i64 S.mx] 102) ?_ ?_
    · rw [← tk_tk]
      generalize tk lim out (rng x y l.ents) = o4 at *
      by_cases hc1 : x ≤ k
      rotate_left
      · rw [rng_none (x := x) (y := y) (l := [(k, u)]) (fun e he => by simp at he; subst he; simp; omega), tk_nil]
        repeat (first | refine sp ?_ | (refine is_load ?_; refine ld ?_) | (refine is_store ?_; refine sr ?_) | (refine is_alloc ?_; refine al ?_) | (refine is_box ?_; refine bx ?_) | (refine isl_load ?_; refine ldl ?_) | (refine isl_store ?_; refine srl ?_) | (refine isl_alloc ?_; refine all' ?_) | (refine isl_box ?_; refine bxl ?_))
        exact go_stop (G := Value) v4 rfl ⟨rfl, rfl, rfl, rfl, trivial⟩ ⟨h4, ha4, hv4, hF4, hn4⟩ trivial
      by_cases hc2 : k ≤ y
      rotate_left
      · rw [rng_none (x := x) (y := y) (l := [(k, u)]) (fun e he => by simp at he; subst he; simp; omega), tk_nil]
        repeat (first | refine sp ?_ | (refine is_load ?_; refine ld ?_) | (refine is_store ?_; refine sr ?_) | (refine is_alloc ?_; refine al ?_) | (refine is_box ?_; refine bx ?_) | (refine isl_load ?_; refine ldl ?_) | (refine isl_store ?_; refine srl ?_) | (refine isl_alloc ?_; refine all' ?_) | (refine isl_box ?_; refine bxl ?_))
        exact go_stop (G := Value) v4 rfl ⟨rfl, rfl, rfl, rfl, trivial⟩ ⟨h4, ha4, hv4, hF4, hn4⟩ trivial
      rw [show rng x y [(k, u)] = [(k, u)] from List.filter_eq_self.2 fun e he => by simp at he; subst he; simp [inR]; omega]
      repeat (first | refine sp ?_ | (refine is_load ?_; refine ld ?_) | (refine is_store ?_; refine sr ?_) | (refine is_alloc ?_; refine al ?_) | (refine is_box ?_; refine bx ?_) | (refine isl_load ?_; refine ldl ?_) | (refine isl_store ?_; refine srl ?_) | (refine isl_alloc ?_; refine all' ?_) | (refine isl_box ?_; refine bxl ?_))
      refine go_call rfl rfl (l_full w4 lo0 b p v4 lim o4 h4) ?_
      rintro _ w5 ⟨rfl, hx5⟩
      have h5 := h4.ext hx5
      have ha5 := ha4.ext hx5
      have hn5 := hn4.ext hx5
      have hF5 := hF4.trans (Fr.of_ext hx5)
      by_cases hfl : lim ≤ o4.length
      · rw [decide_eq_true hfl, tk_full _ hfl]
        repeat (first | refine sp ?_ | (refine is_load ?_; refine ld ?_) | (refine is_store ?_; refine sr ?_) | (refine is_alloc ?_; refine al ?_) | (refine is_box ?_; refine bx ?_) | (refine isl_load ?_; refine ldl ?_) | (refine isl_store ?_; refine srl ?_) | (refine isl_alloc ?_; refine all' ?_) | (refine isl_box ?_; refine bxl ?_))
        exact go_stop (G := Value) v4 rfl ⟨rfl, rfl, rfl, rfl, trivial⟩ ⟨h5, ha5, hv4, hF5, hn5⟩ trivial
      rw [decide_eq_false hfl, tk_one _ (by omega)]
      have hb5 := h5.at'
      have ho5 := h5.own
      have hnb5 := h5.nb
      have hnn5 := ho5.nec hn5 (by decide)
      have hbl5 := hb5.lt
      obtain ⟨s4, c4, rfl, _, _⟩ := Own.slice ho5
      repeat (first | refine sp ?_ | (refine is_load ?_; refine ld ?_) | (refine is_store ?_; refine sr ?_) | (refine is_alloc ?_; refine al ?_) | (refine is_box ?_; refine bx ?_) | (refine isl_load ?_; refine ldl ?_) | (refine isl_store ?_; refine srl ?_) | (refine isl_alloc ?_; refine all' ?_) | (refine isl_box ?_; refine bxl ?_))
      refine go_drawE (Fr (fun z => (Value.slice s4 o4.length c4).ownBlock = some z) w5) 1 Try.follows (by kernel_rfl) (by kernel_rfl) (by kernel_rfl) ((Fr.refl _ _).drewN 1) ?_
      repeat (first | refine sp ?_ | (refine is_load ?_; refine ld ?_) | (refine is_store ?_; refine sr ?_) | (refine is_alloc ?_; refine al ?_) | (refine is_box ?_; refine bx ?_) | (refine isl_load ?_; refine ldl ?_) | (refine isl_store ?_; refine srl ?_) | (refine isl_alloc ?_; refine all' ?_) | (refine isl_box ?_; refine bxl ?_))
      refine gol_litG (l := entC (k, u)) rfl rfl (by decide) (by decide) rfl (by show Fr _ _ _; (repeat (first | exact Fr.refl _ _ | assumption | apply Fr.drewN | apply Fr.alloc | (apply Fr.transF; assumption) | (refine Fr.setRow ?_ _ (by first | exact Or.inr (by (first | omega | (simp; done) | (simp; omega))) | (exact Or.inl (by first | assumption | (simp; done)))))))) ?_
      repeat (first | refine sp ?_ | (refine is_load ?_; refine ld ?_) | (refine is_store ?_; refine sr ?_) | (refine is_alloc ?_; refine al ?_) | (refine is_box ?_; refine bx ?_) | (refine isl_load ?_; refine ldl ?_) | (refine isl_store ?_; refine srl ?_) | (refine isl_alloc ?_; refine all' ?_) | (refine isl_box ?_; refine bxl ?_))
      have hx6 : Ext w5 ((w5.drewN 1).alloc (.cells (entC (k, u)).toArray 72)) := Fr.alloc ((Fr.refl _ _).drewN 1) _
      have hat := At.new (w5.drewN 1) (entC (k, u)) 72
      have hs6 := hx6.size
      have hol5 : o4.length ≤ lim := by omega
      refine gol_appendG (r := 1) (sa := some ⟨w5.heap.size, 0, none⟩) (news := entC (k, u)) (by decide) rfl rfl rfl (Own.ext ho5 hx6) (by
        intro j z hj
        exact ⟨_, _, rfl, by have := hat.cell (i := j) (v := z) hj; simpa using this⟩) rfl (by simp [Value.oneCell']) (by simp [maxLen]; omega) (by omega) (by have := hF5.size; simp; omega) ?_
      intro v6 w6 ho6 hg6 hbk
      have hf6 := Fr.of_grown hg6
      have hD6 : Fr (fun z => (Value.slice s4 o4.length c4).ownBlock = some z) w5 w6 := (hx6.mono fun _ e => e.elim).trans hf6
      refine ⟨hD6, ?_⟩
      have hb6 : At w6 b _ 151 := hb5.fr hD6 hnb5
      have hn6 : At w6 nb _ 102 := hn5.fr hD6 hnn5
      have hsz6 := hD6.size
      have ho7 : OwnE w6 lo0 v6 (o4 ++ [(k, u)]) := by
        unfold OwnE
        rw [List.flatMap_append, List.length_append]
        simpa using ho6
      have hnb6 := ho7.nec hb6 (by decide)
      have ha6 : ArP w6 lo p q A4 := ha5.fr hD6 fun z hz e => hd4 z e hz
      obtain ⟨s7, c7, rfl, _, _⟩ := Own.slice ho7
      repeat (first | refine sp ?_ | (refine is_load ?_; refine ld ?_) | (refine is_store ?_; refine sr ?_) | (refine is_alloc ?_; refine al ?_) | (refine is_box ?_; refine bx ?_) | (refine isl_load ?_; refine ldl ?_) | (refine isl_store ?_; refine srl ?_) | (refine isl_alloc ?_; refine all' ?_) | (refine isl_box ?_; refine bxl ?_))
      refine go_stop (G := Value) _ rfl ⟨rfl, rfl, rfl, rfl, trivial⟩ ⟨⟨by (repeat (first | assumption | (refine At.new' (by (first | omega | (simp; done) | (simp; omega))) _ _) | apply At.alloc | apply At.drewN | apply At.setRow | (apply At.setRow_neF; first | assumption | (apply Ne.symm; assumption) | omega) | (apply At.extF; assumption))), ho7.fr' (S := fun z => z = b) (by (repeat (first | exact Fr.refl _ _ | assumption | apply Fr.drewN | apply Fr.alloc | (apply Fr.transF; assumption) | (refine Fr.setRow ?_ _ (by first | exact Or.inr (by (first | omega | (simp; done) | (simp; omega))) | (exact Or.inl (by first | assumption | (simp; done)))))))) (fun z hz e => hnb6 (e ▸ hz))⟩, ha6.fr (S := fun z => z = b) (by (repeat (first | exact Fr.refl _ _ | assumption | apply Fr.drewN | apply Fr.alloc | (apply Fr.transF; assumption) | (refine Fr.setRow ?_ _ (by first | exact Or.inr (by (first | omega | (simp; done) | (simp; omega))) | (exact Or.inl (by first | assumption | (simp; done)))))))) (fun z hz e => hbq (e ▸ hz)), fun z hz => ?_, ?_, hn6.fr (S := fun z => z = b) (by (repeat (first | exact Fr.refl _ _ | assumption | apply Fr.drewN | apply Fr.alloc | (apply Fr.transF; assumption) | (refine Fr.setRow ?_ _ (by first | exact Or.inr (by (first | omega | (simp; done) | (simp; omega))) | (exact Or.inl (by first | assumption | (simp; done)))))))) (fun e => ?_)⟩ trivial
      · rcases hbk z hz with e | e
        · exact hv4 z e
        · have := hF5.size; have := hx5.size; have := hn5.lt; simp at e; exact Or.inr ⟨by omega, by omega⟩
      · refine hF5.trans' (S' := fun z => z = b ∨ (Value.slice s4 o4.length c4).ownBlock = some z) (Fr.setRow (hD6.mono fun z e => Or.inr e) _ (Or.inl (Or.inl rfl))) fun z hz e => ?_
        rcases e with e | e
        · exact Or.inl e
        · rcases hv4 z e with e | e
          · exact Or.inr (Or.inr e)
          · omega
      · omega
    rintro v6 w6 ⟨h6, ha6, hv6, hF6, hn6⟩
    have hol6 := tk_len (m := lim) (rng x y l.ents ++ rng x y [(k, u)]) hol
    have hd6 : ∀ z, v6.ownBlock = some z → ¬ q.fp z := fun z hz e => by
      rcases hv6 z hz with h | h
      · exact hd z h e
      · have := ha.lt z e; omega
    have hs6 := hF6.size
    rw [rng_nd, ← List.append_assoc, ← tk_tk]
    by_cases hc : k < y
    · repeat (first | refine sp ?_ | (refine is_load ?_; refine ld ?_) | (refine is_store ?_; refine sr ?_) | (refine is_alloc ?_; refine al ?_) | (refine is_box ?_; refine bx ?_) | (refine isl_load ?_; refine ldl ?_) | (refine isl_store ?_; refine srl ?_) | (refine isl_alloc ?_; refine all' ?_) | (refine isl_box ?_; refine bxl ?_))
      refine go_call rfl rfl (ihr w6 A4 v6 _ h6 ha6 hd6 (by omega) (hR4.inA hi.2.2.2.2) her hsr (by omega) hol6) ?_
      rintro _ w7 ⟨rfl, v7, A7, h7, ha7, hR7, hv7, hf7⟩
      repeat (first | refine sp ?_ | (refine is_load ?_; refine ld ?_) | (refine is_store ?_; refine sr ?_) | (refine is_alloc ?_; refine al ?_) | (refine is_box ?_; refine bx ?_) | (refine isl_load ?_; refine ldl ?_) | (refine isl_store ?_; refine srl ?_) | (refine isl_alloc ?_; refine all' ?_) | (refine isl_box ?_; refine bxl ?_))
      refine go_end0 rfl ⟨_, rfl, rfl, v7, A7, h7, ha7, (hR4.trans hR7).mono (by omega), fun z hz => ?_, hF6.trans' hf7 fun z hz e => ?_⟩
      · rcases hv7 z hz with e | e
        · rcases hv6 z e with e | e
          · exact Or.inl e
          · exact Or.inr e.1
        · exact Or.inr (by omega)
      · rcases e with e | e | e
        · exact Or.inl e
        · exact Or.inr (Or.inl e)
        · rcases hv6 z e with e | e
          · exact Or.inr (Or.inr e)
          · omega
    · rw [rng_none (x := x) (y := y) (l := r.ents) (fun e he => by have := hgt e he; omega), tk_nil]
      repeat (first | refine sp ?_ | (refine is_load ?_; refine ld ?_) | (refine is_store ?_; refine sr ?_) | (refine is_alloc ?_; refine al ?_) | (refine is_box ?_; refine bx ?_) | (refine isl_load ?_; refine ldl ?_) | (refine isl_store ?_; refine srl ?_) | (refine isl_alloc ?_; refine all' ?_) | (refine isl_box ?_; refine bxl ?_))
      exact go_end0 rfl ⟨_, rfl, rfl, v6, A4, h6, ha6, hR4.mono (by omega), fun z hz => (hv6 z hz).imp id (fun e => e.1), hF6⟩

theorem rng_len (x y : Int) (l : List (Int × Int)) : (rng x y l).length ≤ l.length := List.length_filter_le _ _

set_option maxHeartbeats 1000000 in
theorem c_Range (w : World) (lo p : Nat) (q : AP) (A : AR) (t : Tr) (x y : Int) (lim : Nat) (ha : ArP w lo p q A) (hi : InA A t) (he : InE t.ents) (ho : Srt t.ents) (hs : t.sz ≤ 1000000) (h1 : x ≤ y) (h2 : 1 ≤ lim) (h3 : lim ≤ 1000000) :
    Calls Try.prog 80 [ptr p, .int .u32 (t.root : Int), .int .i64 x, .int .i64 y, .int .i64 (lim : Int)].toArray w (Ret fun r w' => OwnE w' w.heap.size r ((rng x y t.ents).take lim) ∧ ∃ A', ArP w' lo p q A' ∧ Rds A A' t.sz ∧ Fr (fun z => z = p) w w') := by
  have hpl := ha.lt p ha.fpp
  refine calls_go Try.func80 rfl Try.ntmps80 (Nat.le_of_ble_eq_true rfl) ?_
  repeat (first | refine sp ?_ | (refine is_load ?_; refine ld ?_) | (refine is_store ?_; refine sr ?_) | (refine is_alloc ?_; refine al ?_) | (refine is_box ?_; refine bx ?_) | (refine isl_load ?_; refine ldl ?_) | (refine isl_store ?_; refine srl ?_) | (refine isl_alloc ?_; refine all' ?_) | (refine isl_box ?_; refine bxl ?_))
  refine go_name (F := fun w1 => LiAt w1 (w.heap.size + 1) w.heap.size p (.slice none 0 0) lim [] ∧ Ext w w1 ∧ w.heap.size + 1 ≤ w1.heap.size) ⟨⟨by (repeat (first | assumption | (refine At.new' (by (first | omega | (simp; done) | (simp; omega))) _ _) | apply At.alloc | apply At.drewN | apply At.setRow | (apply At.setRow_neF; first | assumption | (apply Ne.symm; assumption) | omega) | (apply At.extF; assumption))), Own.nil _ _ _ _⟩, by (repeat (first | exact Fr.refl _ _ | assumption | apply Fr.drewN | apply Fr.alloc | (apply Fr.transF; assumption) | (refine Fr.setRow ?_ _ (by first | exact Or.inr (by (first | omega | (simp; done) | (simp; omega))) | (exact Or.inl (by first | assumption | (simp; done))))))), by simp⟩ ?_
  rintro w1 ⟨hl1, hx1, hs1⟩
  refine go_call rfl rfl (l_keys (w.heap.size + 1) w.heap.size lo p q lim x y h3 (fun e => by have := ha.lt _ e; omega) t w1 A _ [] hl1 (ha.ext hx1) (fun z hz => by cases hz) hs1 hi he ho hs (by simp)) ?_
  rintro _ w2 ⟨rfl, v2, A2, h2, ha2, hR2, hv2, hf2⟩
  have hb2 := h2.at'
  have ho2 := h2.own
  rw [show tk lim [] (rng x y t.ents) = (rng x y t.ents).take lim by simp [tk]] at ho2
  obtain ⟨s2, c2, rfl, _, _⟩ := Own.slice ho2
  repeat (first | refine sp ?_ | (refine is_load ?_; refine ld ?_) | (refine is_store ?_; refine sr ?_) | (refine is_alloc ?_; refine al ?_) | (refine is_box ?_; refine bx ?_) | (refine isl_load ?_; refine ldl ?_) | (refine isl_store ?_; refine srl ?_) | (refine isl_alloc ?_; refine all' ?_) | (refine isl_box ?_; refine bxl ?_))
  refine go_ret1 rfl rfl ⟨_, rfl, OwnE.mono ho2 (by omega), A2, ha2, hR2, ?_⟩
  refine (Fr.of_ext hx1).trans' hf2 fun z hz e => ?_
  rcases e with e | e | e
  · omega
  · exact e
  · cases e

end Go.Proofs.Yteghhalnpdikoaa

namespace Go.Proofs.Yteghhalnpdikoaa
open Go.Vc

/-! ### Sorted lists -/

theorem filter_down {P : Int → Bool} (hm : ∀ a b, a ≤ b → P b = true → P a = true) : ∀ {l : List (Int × Int)}, Srt l → l.filter (pK P) = l.take (cntF (pK P) l) ∧ l.filter (pK fun k => !P k) = l.drop (cntF (pK P) l)
  | [], _ => by simp [cntF]
  | e :: l, h => by
    obtain ⟨h1, h2⟩ := List.pairwise_cons.1 h
    obtain ⟨i1, i2⟩ := filter_down hm h2
    by_cases hp : P e.1 = true
    · rw [cntF_cons, if_pos (by unfold pK; exact hp), Nat.add_comm 1, List.take_succ_cons, List.drop_succ_cons, ← i1, ← i2]
      constructor
      · rw [List.filter_cons, if_pos (by unfold pK; exact hp)]
      · rw [List.filter_cons, if_neg (by unfold pK; show ¬ (!P e.1) = true; rw [hp]; decide)]
    · have hn : ∀ u ∈ e :: l, pK P u = false := fun u hu => by
        unfold pK
        rcases List.mem_cons.1 hu with rfl | hu
        · simpa using hp
        · have := h1 u hu
          cases hc : P u.1 with
          | false => rfl
          | true => exact absurd (hm e.1 u.1 (by omega) hc) hp
      rw [cntF_none hn]
      constructor
      · rw [List.filter_eq_nil_iff.2 (fun u hu => by rw [hn u hu]; decide)]; rfl
      · rw [List.drop_zero, List.filter_eq_self]
        intro u hu
        have := hn u hu
        unfold pK at this ⊢
        show (!P u.1) = true
        rw [this]; rfl

theorem take_last {l : List (Int × Int)} {n : Nat} (hn : n ≤ l.length) : (l.take n).getLast? = entAt l ((n : Int) - 1) := by
  unfold entAt
  rcases Nat.eq_zero_or_pos n with h | h
  · subst h; simp
  · rw [if_neg (by omega), List.getLast?_eq_getElem?, List.length_take, Nat.min_eq_left hn, List.getElem?_take, if_pos (by omega)]
    congr 1; omega
theorem drop_head {l : List (Int × Int)} {n : Nat} : (l.drop n).head? = entAt l (n : Int) := by
  unfold entAt
  rw [if_neg (by omega), List.head?_drop]; rfl

def getE (l : List (Int × Int)) (x : Int) : Option Int := (l.find? fun e => decide (e.1 = x)).map (·.2)
def hasN (l : List (Int × Int)) (x : Int) : Nat := if (getE l x).isSome then 1 else 0
def rkN (l : List (Int × Int)) (x : Int) : Nat := cntF (befP false x) l

theorem cnt_le {x : Int} : ∀ {l : List (Int × Int)}, Srt l → cntF (pK fun k => decide (k ≤ x)) l = rkN l x + hasN l x
  | [], _ => rfl
  | e :: l, h => by
    obtain ⟨h1, h2⟩ := List.pairwise_cons.1 h
    have ih := cnt_le h2 (x := x)
    unfold rkN at ih ⊢
    rw [cntF_cons, cntF_cons]
    rcases Int.lt_trichotomy e.1 x with hc | hc | hc
    · have : hasN (e :: l) x = hasN l x := by
        unfold hasN getE
        rw [List.find?_cons_of_neg (by simp; omega)]
      rw [if_pos (by simp [pK]; omega), if_pos (by simp [befP]; omega), this]; omega
    · have hh : hasN (e :: l) x = 1 := by
        unfold hasN getE
        rw [List.find?_cons_of_pos (by simp [hc])]; rfl
      have n1 : cntF (pK fun k => decide (k ≤ x)) l = 0 := cntF_none fun u hu => by have := h1 u hu; simp [pK]; omega
      have n2 : cntF (befP false x) l = 0 := cntF_none fun u hu => by have := h1 u hu; simp [befP]; omega
      rw [if_pos (by simp [pK]; omega), if_neg (by simp [befP]; omega), hh, n1, n2]
    · have hh : hasN (e :: l) x = 0 := by
        unfold hasN getE
        rw [List.find?_eq_none.2]; · rfl
        intro u hu
        rcases List.mem_cons.1 hu with rfl | hu
        · simp; omega
        · have := h1 u hu; simp; omega
      have n1 : cntF (pK fun k => decide (k ≤ x)) l = 0 := cntF_none fun u hu => by have := h1 u hu; simp [pK]; omega
      have n2 : cntF (befP false x) l = 0 := cntF_none fun u hu => by have := h1 u hu; simp [befP]; omega
      rw [if_neg (by simp [pK]; omega), if_neg (by simp [befP]; omega), hh, n1, n2]

theorem rk_lt (x : Int) (l : List (Int × Int)) : cntF (pK fun k => decide (k < x)) l = rkN l x := rfl

/-- The four neighbors, by the place of the key. -/
theorem nb_below {l : List (Int × Int)} (h : Srt l) (x : Int) : (l.filter (pK fun k => decide (k < x))).getLast? = entAt l ((rkN l x : Int) - 1) := by
  rw [(filter_down (P := fun k => decide (k < x)) (fun a b h1 h2 => by simp at h2 ⊢; omega) h).1, rk_lt, take_last (n := rkN l x) (cntF_le _ _)]
theorem nb_floor {l : List (Int × Int)} (h : Srt l) (x : Int) : (l.filter (pK fun k => decide (k ≤ x))).getLast? = entAt l (((rkN l x + hasN l x : Nat) : Int) - 1) := by
  rw [(filter_down (P := fun k => decide (k ≤ x)) (fun a b h1 h2 => by simp at h2 ⊢; omega) h).1, ← cnt_le h, take_last (cntF_le _ _)]
theorem nb_ceiling {l : List (Int × Int)} (h : Srt l) (x : Int) : (l.filter (pK fun k => decide (x ≤ k))).head? = entAt l (rkN l x : Int) := by
  have := (filter_down (P := fun k => decide (k < x)) (fun a b h1 h2 => by simp at h2 ⊢; omega) h).2
  rw [rk_lt] at this
  rw [← drop_head, ← this]
  congr 2
  funext e; unfold pK; simp only []
  by_cases hc : e.1 < x <;> simp [hc] <;> omega
theorem nb_above {l : List (Int × Int)} (h : Srt l) (x : Int) : (l.filter (pK fun k => decide (x < k))).head? = entAt l ((rkN l x + hasN l x : Nat) : Int) := by
  have := (filter_down (P := fun k => decide (k ≤ x)) (fun a b h1 h2 => by simp at h2 ⊢; omega) h).2
  rw [cnt_le h] at this
  rw [← drop_head, ← this]
  congr 2
  funext e; unfold pK; simp only []
  by_cases hc : e.1 ≤ x <;> simp [hc] <;> omega

/-! ### The reference -/

set_option maxHeartbeats 1000000 in
theorem c_refRank (w : World) (hi : Nat) (lv : Value) (l : List (Int × Int)) (x : Int) (hr : RdU w hi lv entC l) (hlen : l.length ≤ 1000000) :
    Calls Try.prog 82 [lv, .int .i64 x].toArray w (Ret fun v w' => v = .int .i64 (rkN l x : Int) ∧ w' = w) := by
  have hr0 := hr
  obtain ⟨sa, cap, rfl, hlc, _, _⟩ := hr0
  refine calls_go Try.func82 rfl Try.ntmps82 (Nat.le_of_ble_eq_true rfl) ?_
  repeat (first | refine sp ?_ | (refine is_load ?_; refine ld ?_) | (refine is_store ?_; refine sr ?_) | (refine is_alloc ?_; refine al ?_) | (refine is_box ?_; refine bx ?_) | (refine isl_load ?_; refine ldl ?_) | (refine isl_store ?_; refine srl ?_) | (refine isl_alloc ?_; refine all' ?_) | (refine isl_box ?_; refine bxl ?_) | refine dr Try.follows ?_)
  refine go_loop (G := Nat) [5, 6] (fun k => [.int .i64 (rkN (l.take k) x : Int), .int .i64 (k : Int)]) [(0, .slice sa l.length cap), (1, .int .i64 x)]
    (fun k w' => k ≤ l.length ∧ w' = w) (fun k => l.length - k) 0 rfl ⟨rfl, rfl, trivial⟩ ⟨by omega, rfl⟩ ?_
  rintro k w ⟨hk, rfl⟩
  by_cases hlt : k < l.length
  · obtain ⟨b, o, es, _, hcell⟩ := hr.at (m := 2) (fun _ => rfl) (by omega) hlt
    subst es
    have e0 := hcell 0 (.int .i64 l[k].1) rfl
    have hs : rkN (l.take (k + 1)) x = rkN (l.take k) x + (if l[k].1 < x then 1 else 0) := by
      unfold rkN
      rw [List.take_succ_eq_append_getElem hlt, cntF_append, cntF_cons]
      simp [befP, cntF]
    have hb : rkN (l.take k) x ≤ k := Nat.le_trans (cntF_le _ _) (by rw [List.length_take]; omega)
    generalize l[k] = e at *
    by_cases hc : e.1 < x
    · rw [if_pos hc] at hs
      repeat (first | refine sp ?_ | (refine is_load ?_; refine ld ?_) | (refine is_store ?_; refine sr ?_) | (refine is_alloc ?_; refine al ?_) | (refine is_box ?_; refine bx ?_) | (refine isl_load ?_; refine ldl ?_) | (refine isl_store ?_; refine srl ?_) | (refine isl_alloc ?_; refine all' ?_) | (refine isl_box ?_; refine bxl ?_) | refine dr Try.follows ?_)
      refine go_as 5 (u' := .int .i64 (rkN (l.take (k + 1)) x : Int)) rfl (by rw [hs]; rfl) ?_
      exact go_stop (G := Nat) (k + 1) rfl ⟨rfl, rfl, trivial⟩ ⟨hlt, rfl⟩ (by show l.length - (k + 1) < l.length - k; omega)
    · rw [if_neg hc] at hs
      repeat (first | refine sp ?_ | (refine is_load ?_; refine ld ?_) | (refine is_store ?_; refine sr ?_) | (refine is_alloc ?_; refine al ?_) | (refine is_box ?_; refine bx ?_) | (refine isl_load ?_; refine ldl ?_) | (refine isl_store ?_; refine srl ?_) | (refine isl_alloc ?_; refine all' ?_) | (refine isl_box ?_; refine bxl ?_) | refine dr Try.follows ?_)
      refine go_as 5 (u' := .int .i64 (rkN (l.take (k + 1)) x : Int)) rfl (by rw [hs, Nat.add_zero]) ?_
      exact go_stop (G := Nat) (k + 1) rfl ⟨rfl, rfl, trivial⟩ ⟨hlt, rfl⟩ (by show l.length - (k + 1) < l.length - k; omega)
  · obtain rfl : k = l.length := by omega
    repeat (first | refine sp ?_ | (refine is_load ?_; refine ld ?_) | (refine is_store ?_; refine sr ?_) | (refine is_alloc ?_; refine al ?_) | (refine is_box ?_; refine bx ?_) | (refine isl_load ?_; refine ldl ?_) | (refine isl_store ?_; refine srl ?_) | (refine isl_alloc ?_; refine all' ?_) | (refine isl_box ?_; refine bxl ?_) | refine dr Try.follows ?_)
    exact go_ret1 rfl rfl ⟨_, rfl, by rw [List.take_length], rfl⟩

def getV (o : Option Int) : Value := .tuple #[.int .i64 (o.getD 0), .bool o.isSome]

set_option maxHeartbeats 1000000 in
theorem c_refGet (w : World) (hi : Nat) (lv : Value) (l : List (Int × Int)) (x : Int) (hr : RdU w hi lv entC l) (hlen : l.length ≤ 1000000) :
    Calls Try.prog 64 [lv, .int .i64 x].toArray w (Ret fun v w' => v = getV (getE l x) ∧ w' = w) := by
  have hr0 := hr
  obtain ⟨sa, cap, rfl, hlc, _, _⟩ := hr0
  refine calls_go Try.func64 rfl Try.ntmps64 (Nat.le_of_ble_eq_true rfl) ?_
  repeat (first | refine sp ?_ | (refine is_load ?_; refine ld ?_) | (refine is_store ?_; refine sr ?_) | (refine is_alloc ?_; refine al ?_) | (refine is_box ?_; refine bx ?_) | (refine isl_load ?_; refine ldl ?_) | (refine isl_store ?_; refine srl ?_) | (refine isl_alloc ?_; refine all' ?_) | (refine isl_box ?_; refine bxl ?_) | refine dr Try.follows ?_)
  refine go_loop (G := Nat) [6] (fun k => [.int .i64 (k : Int)]) [(0, .slice sa l.length cap), (1, .int .i64 x)]
    (fun k w' => k ≤ l.length ∧ getE (l.drop k) x = getE l x ∧ w' = w) (fun k => l.length - k) 0 rfl ⟨rfl, rfl, trivial⟩ ⟨by omega, rfl, rfl⟩ ?_
  rintro k w ⟨hk, hg, rfl⟩
  by_cases hlt : k < l.length
  · obtain ⟨b, o, es, _, hcell⟩ := hr.at (m := 2) (fun _ => rfl) (by omega) hlt
    subst es
    have e0 := hcell 0 (.int .i64 l[k].1) rfl
    have e1 := hcell 1 (.int .i64 l[k].2) rfl
    rw [List.drop_eq_getElem_cons hlt] at hg
    generalize l[k] = e at *
    by_cases hc : e.1 = x
    · have : getE l x = some e.2 := by rw [← hg]; unfold getE; rw [List.find?_cons_of_pos (by simp [hc])]; rfl
      rw [this]
      repeat (first | refine sp ?_ | (refine is_load ?_; refine ld ?_) | (refine is_store ?_; refine sr ?_) | (refine is_alloc ?_; refine al ?_) | (refine is_box ?_; refine bx ?_) | (refine isl_load ?_; refine ldl ?_) | (refine isl_store ?_; refine srl ?_) | (refine isl_alloc ?_; refine all' ?_) | (refine isl_box ?_; refine bxl ?_) | refine dr Try.follows ?_)
      exact go_ret2 rfl rfl rfl ⟨_, rfl, rfl, rfl⟩
    · have : getE (l.drop (k + 1)) x = getE l x := by rw [← hg]; unfold getE; rw [List.find?_cons_of_neg (by simp [hc])]
      repeat (first | refine sp ?_ | (refine is_load ?_; refine ld ?_) | (refine is_store ?_; refine sr ?_) | (refine is_alloc ?_; refine al ?_) | (refine is_box ?_; refine bx ?_) | (refine isl_load ?_; refine ldl ?_) | (refine isl_store ?_; refine srl ?_) | (refine isl_alloc ?_; refine all' ?_) | (refine isl_box ?_; refine bxl ?_) | refine dr Try.follows ?_)
      exact go_stop (G := Nat) (k + 1) rfl ⟨rfl, rfl, trivial⟩ ⟨hlt, this, rfl⟩ (by show l.length - (k + 1) < l.length - k; omega)
  · have : getE l x = none := by rw [← hg, List.drop_of_length_le (by omega)]; rfl
    rw [this]
    repeat (first | refine sp ?_ | (refine is_load ?_; refine ld ?_) | (refine is_store ?_; refine sr ?_) | (refine is_alloc ?_; refine al ?_) | (refine is_box ?_; refine bx ?_) | (refine isl_load ?_; refine ldl ?_) | (refine isl_store ?_; refine srl ?_) | (refine isl_alloc ?_; refine all' ?_) | (refine isl_box ?_; refine bxl ?_) | refine dr Try.follows ?_)
    exact go_ret2 rfl rfl rfl ⟨_, rfl, rfl, rfl⟩

/-! ### The exact search in a tree -/

theorem getE_nd {i : Nat} {l r : Tr} {k v x : Int} (ho : Srt (Tr.nd i l k v r).ents) : getE (Tr.nd i l k v r).ents x = if x < k then getE l.ents x else if k < x then getE r.ents x else some v := by
  obtain ⟨hol, hor, hlt, hgt⟩ := ho.nd
  have hen : (Tr.nd i l k v r).ents = l.ents ++ (k, v) :: r.ents := rfl
  unfold getE
  rw [hen, List.find?_append]
  by_cases h1 : x < k
  · rw [if_pos h1]
    have : ((k, v) :: r.ents).find? (fun e => decide (e.1 = x)) = none := List.find?_eq_none.2 fun u hu => by
      rcases List.mem_cons.1 hu with rfl | hu
      · simp; omega
      · have := hgt u hu; simp; omega
    rw [this]; cases (l.ents.find? fun e => decide (e.1 = x)) <;> rfl
  · rw [if_neg h1]
    by_cases h2 : k < x
    · rw [if_pos h2, List.find?_eq_none.2 (fun u hu => by have := hlt u hu; simp; omega), List.find?_cons_of_neg (by simp; omega)]; rfl
    · rw [if_neg h2, List.find?_eq_none.2 (fun u hu => by have := hlt u hu; simp; omega), List.find?_cons_of_pos (by simp; omega)]; rfl

end Go.Proofs.Yteghhalnpdikoaa

namespace Go.Proofs.Yteghhalnpdikoaa
open Go.Vc

theorem getE_mem {m : List (Int × Int)} (h : Srt m) (k v : Int) : getE m k = some v ↔ (k, v) ∈ m := by
  induction m with
  | nil => simp [getE]
  | cons e m ih =>
    have ih := ih h.tail
    have hh := h.head
    obtain ⟨ek, ev⟩ := e
    unfold getE at ih ⊢
    by_cases hk : ek = k
    · subst hk
      rw [List.find?_cons_of_pos (by simp)]
      simp only [Option.map_some, Option.some.injEq, List.mem_cons, Prod.mk.injEq, true_and]
      constructor
      · intro e; exact Or.inl e.symm
      · rintro (e | e)
        · exact e.symm
        · have := hh _ e; simp at this
    · rw [List.find?_cons_of_neg (by simpa using hk), ih]
      simp only [List.mem_cons, Prod.mk.injEq]
      constructor
      · intro e; exact Or.inr e
      · rintro (e | e)
        · exact absurd e.1.symm hk
        · exact e
theorem getE_none {m : List (Int × Int)} (k : Int) : getE m k = none ↔ ∀ e ∈ m, e.1 ≠ k := by
  unfold getE
  rw [Option.map_eq_none_iff, List.find?_eq_none]
  simp

theorem ent_eqL (a b : Int × Int) : eqL (entC a) (entC b) = decide (a = b) := by
  obtain ⟨a1, a2⟩ := a
  obtain ⟨b1, b2⟩ := b
  by_cases h1 : a1 = b1 <;> by_cases h2 : a2 = b2 <;> simp [eqL, entC, h1, h2]

set_option maxHeartbeats 1000000 in
theorem c_SameB (w : World) (hi1 hi2 : Nat) (v1 v2 : Value) (l m : List (Int × Int)) (h1 : RdU w hi1 v1 entC l) (h2 : RdU w hi2 v2 entC m) (hl : l.length ≤ 1000000) (hm : m.length ≤ 1000000) :
    Calls Try.prog 24 [v1, v2].toArray w (Ret fun r w' => r = .bool (eqB l m) ∧ Ext w w') := by
  obtain ⟨s1, c1, rfl, hc1, _, _⟩ := id h1
  obtain ⟨s2, c2, rfl, hc2, _, _⟩ := id h2
  refine calls_go Try.func24 rfl Try.ntmps24 (Nat.le_of_ble_eq_true rfl) ?_
  by_cases hlm : l.length = m.length
  · repeat (first | refine sp ?_ | (refine is_load ?_; refine ld ?_) | (refine is_store ?_; refine sr ?_) | (refine is_alloc ?_; refine al ?_) | (refine is_box ?_; refine bx ?_) | (refine isl_load ?_; refine ldl ?_) | (refine isl_store ?_; refine srl ?_) | (refine isl_alloc ?_; refine all' ?_) | (refine isl_box ?_; refine bxl ?_))
    refine go_loop (G := Nat) [5] (fun k => [.int .i64 (k : Int)]) [(0, .slice s1 l.length c1), (1, .slice s2 m.length c2)]
      (fun k w' => k ≤ l.length ∧ l.take k = m.take k ∧ Ext w w') (fun k => l.length - k) 0 rfl ⟨rfl, rfl, trivial⟩ ⟨by omega, rfl, by (repeat (first | exact Fr.refl _ _ | assumption | apply Fr.drewN | apply Fr.alloc | (apply Fr.transF; assumption) | (refine Fr.setRow ?_ _ (by first | exact Or.inr (by (first | omega | (simp; done) | (simp; omega))) | (exact Or.inl (by first | assumption | (simp; done)))))))⟩ ?_
    rintro k w1 ⟨hk, htk, hx⟩
    by_cases hlt : k < l.length
    · obtain ⟨b, o, e, _, hcell⟩ := (h1.ext hx).at (m := 2) (fun _ => rfl) (by omega) hlt
      subst e
      have hlt2 : k < m.length := by omega
      obtain ⟨b2, o2, e, _, hcell2⟩ := (h2.ext hx).at (m := 2) (fun _ => rfl) (by omega) hlt2
      subst e
      have hkm : k < m.length := hlt2
      have hs1 : l.take (k + 1) = l.take k ++ [l[k]] := List.take_succ_eq_append_getElem hlt
      have hs2 : m.take (k + 1) = m.take k ++ [m[k]] := List.take_succ_eq_append_getElem hlt2
      have hne : l[k] ≠ m[k] → eqB l m = false := fun hn => decide_eq_false fun e => hn (by subst e; rfl)
      generalize l[k] = x at *
      generalize m[k] = y at *
      repeat (first | refine sp ?_ | (refine is_load ?_; refine ld ?_) | (refine is_store ?_; refine sr ?_) | (refine is_alloc ?_; refine al ?_) | (refine is_box ?_; refine bx ?_) | (refine isl_load ?_; refine ldl ?_) | (refine isl_store ?_; refine srl ?_) | (refine isl_alloc ?_; refine all' ?_) | (refine isl_box ?_; refine bxl ?_) | refine dr Try.follows ?_)
      refine gol_load (v := .agg (entC x).toArray) rfl rfl (ldD_cells (m := 2) (w := w1) rfl (by decide) (fun j u hj => by rw [addr_add]; exact hcell j u hj) id) ?_
      repeat (first | refine sp ?_ | (refine is_load ?_; refine ld ?_) | (refine is_store ?_; refine sr ?_) | (refine is_alloc ?_; refine al ?_) | (refine is_box ?_; refine bx ?_) | (refine isl_load ?_; refine ldl ?_) | (refine isl_store ?_; refine srl ?_) | (refine isl_alloc ?_; refine all' ?_) | (refine isl_box ?_; refine bxl ?_) | refine dr Try.follows ?_)
      refine gol_load (v := .agg (entC y).toArray) rfl rfl (ldD_cells (m := 2) (w := w1) rfl (by decide) (fun j u hj => by rw [addr_add]; exact hcell2 j u hj) id) ?_
      have he := ent_eqL x y
      unfold entC at he ⊢
      repeat (first | refine sp ?_ | (refine is_load ?_; refine ld ?_) | (refine is_store ?_; refine sr ?_) | (refine is_alloc ?_; refine al ?_) | (refine is_box ?_; refine bx ?_) | (refine isl_load ?_; refine ldl ?_) | (refine isl_store ?_; refine srl ?_) | (refine isl_alloc ?_; refine all' ?_) | (refine isl_box ?_; refine bxl ?_) | refine dr Try.follows ?_)
      by_cases hxy : x = y
      · refine go_as 25 (u' := .bool false) rfl (by rw [he, decide_eq_true hxy]; rfl) ?_
        repeat (first | refine sp ?_ | (refine is_load ?_; refine ld ?_) | (refine is_store ?_; refine sr ?_) | (refine is_alloc ?_; refine al ?_) | (refine is_box ?_; refine bx ?_) | (refine isl_load ?_; refine ldl ?_) | (refine isl_store ?_; refine srl ?_) | (refine isl_alloc ?_; refine all' ?_) | (refine isl_box ?_; refine bxl ?_) | refine dr Try.follows ?_)
        exact go_stop (G := Nat) (k + 1) rfl ⟨rfl, rfl, trivial⟩ ⟨hlt, by rw [hs1, hs2, htk, hxy], by (repeat (first | exact Fr.refl _ _ | assumption | apply Fr.drewN | apply Fr.alloc | (apply Fr.transF; assumption) | (refine Fr.setRow ?_ _ (by first | exact Or.inr (by (first | omega | (simp; done) | (simp; omega))) | (exact Or.inl (by first | assumption | (simp; done)))))))⟩ (by show l.length - (k + 1) < l.length - k; omega)
      · refine go_as 25 (u' := .bool true) rfl (by rw [he, decide_eq_false hxy]; rfl) ?_
        rw [hne hxy]
        repeat (first | refine sp ?_ | (refine is_load ?_; refine ld ?_) | (refine is_store ?_; refine sr ?_) | (refine is_alloc ?_; refine al ?_) | (refine is_box ?_; refine bx ?_) | (refine isl_load ?_; refine ldl ?_) | (refine isl_store ?_; refine srl ?_) | (refine isl_alloc ?_; refine all' ?_) | (refine isl_box ?_; refine bxl ?_) | refine dr Try.follows ?_)
        exact go_ret1 rfl rfl ⟨_, rfl, rfl, by (repeat (first | exact Fr.refl _ _ | assumption | apply Fr.drewN | apply Fr.alloc | (apply Fr.transF; assumption) | (refine Fr.setRow ?_ _ (by first | exact Or.inr (by (first | omega | (simp; done) | (simp; omega))) | (exact Or.inl (by first | assumption | (simp; done)))))))⟩
    · have e : l = m := by
        rw [List.take_of_length_le (by omega), List.take_of_length_le (by omega)] at htk
        exact htk
      rw [show eqB l m = true from decide_eq_true e]
      repeat (first | refine sp ?_ | (refine is_load ?_; refine ld ?_) | (refine is_store ?_; refine sr ?_) | (refine is_alloc ?_; refine al ?_) | (refine is_box ?_; refine bx ?_) | (refine isl_load ?_; refine ldl ?_) | (refine isl_store ?_; refine srl ?_) | (refine isl_alloc ?_; refine all' ?_) | (refine isl_box ?_; refine bxl ?_) | refine dr Try.follows ?_)
      exact go_ret1 rfl rfl ⟨_, rfl, rfl, hx⟩
  · rw [show eqB l m = false from decide_eq_false fun e => hlm (by rw [e])]
    repeat (first | refine sp ?_ | (refine is_load ?_; refine ld ?_) | (refine is_store ?_; refine sr ?_) | (refine is_alloc ?_; refine al ?_) | (refine is_box ?_; refine bx ?_) | (refine isl_load ?_; refine ldl ?_) | (refine isl_store ?_; refine srl ?_) | (refine isl_alloc ?_; refine all' ?_) | (refine isl_box ?_; refine bxl ?_))
    exact go_ret1 rfl rfl ⟨_, rfl, rfl, by (repeat (first | exact Fr.refl _ _ | assumption | apply Fr.drewN | apply Fr.alloc | (apply Fr.transF; assumption) | (refine Fr.setRow ?_ _ (by first | exact Or.inr (by (first | omega | (simp; done) | (simp; omega))) | (exact Or.inl (by first | assumption | (simp; done)))))))⟩

set_option maxHeartbeats 1000000 in
theorem c_refSubset (w : World) (hi1 hi2 : Nat) (v1 v2 : Value) (l m : List (Int × Int)) (h1 : RdU w hi1 v1 entC l) (h2 : RdU w hi2 v2 entC m) (hl : l.length ≤ 1000000) (hm : m.length ≤ 1000000) (hs : Srt m) :
    Calls Try.prog 25 [v1, v2].toArray w (Ret fun r w' => r = .bool (subB l m) ∧ w' = w) := by
  obtain ⟨s1, c1, rfl, hc1, _, _⟩ := id h1
  obtain ⟨s2, c2, rfl, hc2, _, _⟩ := id h2
  refine calls_go Try.func25 rfl Try.ntmps25 (Nat.le_of_ble_eq_true rfl) ?_
  repeat (first | refine sp ?_ | (refine is_load ?_; refine ld ?_) | (refine is_store ?_; refine sr ?_) | (refine is_alloc ?_; refine al ?_) | (refine is_box ?_; refine bx ?_) | (refine isl_load ?_; refine ldl ?_) | (refine isl_store ?_; refine srl ?_) | (refine isl_alloc ?_; refine all' ?_) | (refine isl_box ?_; refine bxl ?_))
  refine go_loop (G := Nat) [5] (fun k => [.int .i64 (k : Int)]) [(0, .slice s1 l.length c1), (1, .slice s2 m.length c2)]
    (fun k w' => k ≤ l.length ∧ (∀ e ∈ l.take k, e ∈ m) ∧ w' = w) (fun k => l.length - k) 0 rfl ⟨rfl, rfl, trivial⟩ ⟨by omega, by simp, rfl⟩ ?_
  rintro k w ⟨hk, htk, rfl⟩
  by_cases hlt : k < l.length
  · obtain ⟨b, o, e, _, hcell⟩ := h1.at (m := 2) (fun _ => rfl) (by omega) hlt
    subst e
    have e0 := hcell 0 (.int .i64 l[k].1) rfl
    have e1 := hcell 1 (.int .i64 l[k].2) rfl
    have hs1 : l.take (k + 1) = l.take k ++ [l[k]] := List.take_succ_eq_append_getElem hlt
    have hmem : l[k] ∈ l := List.getElem_mem hlt
    have hne : l[k] ∉ m → subB l m = false := fun hn => decide_eq_false fun e => hn (e _ hmem)
    generalize l[k] = x at *
    repeat (first | refine sp ?_ | (refine is_load ?_; refine ld ?_) | (refine is_store ?_; refine sr ?_) | (refine is_alloc ?_; refine al ?_) | (refine is_box ?_; refine bx ?_) | (refine isl_load ?_; refine ldl ?_) | (refine isl_store ?_; refine srl ?_) | (refine isl_alloc ?_; refine all' ?_) | (refine isl_box ?_; refine bxl ?_))
    refine go_call rfl rfl (c_refGet _ hi2 _ m x.1 h2 hm) ?_
    rintro _ w1 ⟨rfl, rfl⟩
    unfold getV
    have hg := getE_mem hs x.1 x.2
    cases hge : getE m x.1 with
    | none =>
      rw [hne (fun hx => by rw [hge] at hg; exact absurd (hg.2 hx) (by simp))]
      simp only [Option.getD_none, Option.isSome_none]
      repeat (first | refine sp ?_ | (refine is_load ?_; refine ld ?_) | (refine is_store ?_; refine sr ?_) | (refine is_alloc ?_; refine al ?_) | (refine is_box ?_; refine bx ?_) | (refine isl_load ?_; refine ldl ?_) | (refine isl_store ?_; refine srl ?_) | (refine isl_alloc ?_; refine all' ?_) | (refine isl_box ?_; refine bxl ?_))
      exact go_ret1 rfl rfl ⟨_, rfl, rfl, rfl⟩
    | some v =>
      simp only [Option.getD_some, Option.isSome_some]
      by_cases hv : v = x.2
      · subst hv
        repeat (first | refine sp ?_ | (refine is_load ?_; refine ld ?_) | (refine is_store ?_; refine sr ?_) | (refine is_alloc ?_; refine al ?_) | (refine is_box ?_; refine bx ?_) | (refine isl_load ?_; refine ldl ?_) | (refine isl_store ?_; refine srl ?_) | (refine isl_alloc ?_; refine all' ?_) | (refine isl_box ?_; refine bxl ?_))
        refine go_stop (G := Nat) (k + 1) rfl ⟨rfl, rfl, trivial⟩ ⟨hlt, fun e he => ?_, rfl⟩ (by show l.length - (k + 1) < l.length - k; omega)
        rw [hs1] at he
        rcases List.mem_append.1 he with he | he
        · exact htk e he
        · simp at he; subst he; exact hg.1 hge
      · rw [hne (fun hx => by
          rw [hge] at hg
          exact hv (by simpa using hg.2 hx))]
        repeat (first | refine sp ?_ | (refine is_load ?_; refine ld ?_) | (refine is_store ?_; refine sr ?_) | (refine is_alloc ?_; refine al ?_) | (refine is_box ?_; refine bx ?_) | (refine isl_load ?_; refine ldl ?_) | (refine isl_store ?_; refine srl ?_) | (refine isl_alloc ?_; refine all' ?_) | (refine isl_box ?_; refine bxl ?_))
        exact go_ret1 rfl rfl ⟨_, rfl, rfl, rfl⟩
  · rw [show subB l m = true from decide_eq_true fun e he => htk e (by rw [List.take_of_length_le (by omega)]; exact he)]
    repeat (first | refine sp ?_ | (refine is_load ?_; refine ld ?_) | (refine is_store ?_; refine sr ?_) | (refine is_alloc ?_; refine al ?_) | (refine is_box ?_; refine bx ?_) | (refine isl_load ?_; refine ldl ?_) | (refine isl_store ?_; refine srl ?_) | (refine isl_alloc ?_; refine all' ?_) | (refine isl_box ?_; refine bxl ?_))
    exact go_ret1 rfl rfl ⟨_, rfl, rfl, rfl⟩

theorem c_Choose1 (w : World) (v u : Int) :
    Calls Try.prog 65 [.int .i64 1, .int .i64 v, .int .i64 u].toArray w (Ret fun r w' => r = .int .i64 v ∧ w' = w) := by
  refine calls_go Try.func65 rfl Try.ntmps65 (Nat.le_of_ble_eq_true rfl) ?_
  repeat (first | refine sp ?_ | (refine is_load ?_; refine ld ?_) | (refine is_store ?_; refine sr ?_) | (refine is_alloc ?_; refine al ?_) | (refine is_box ?_; refine bx ?_) | (refine isl_load ?_; refine ldl ?_) | (refine isl_store ?_; refine srl ?_) | (refine isl_alloc ?_; refine all' ?_) | (refine isl_box ?_; refine bxl ?_))
  exact go_ret1 rfl rfl ⟨_, rfl, rfl, rfl⟩

set_option maxHeartbeats 1000000 in
theorem c_refInter (w : World) (hi1 hi2 : Nat) (v1 v2 : Value) (l m : List (Int × Int)) (h1 : RdU w hi1 v1 entC l) (h2 : RdU w hi2 v2 entC m) (hh1 : hi1 ≤ w.heap.size) (hh2 : hi2 ≤ w.heap.size) (hl : l.length ≤ 1000000) (hm : m.length ≤ 1000000) :
    Calls Try.prog 26 [v1, v2, .int .i64 1].toArray w (Ret fun r w' => OwnE w' w.heap.size r (l.filter fun e => (getE m e.1).isSome) ∧ Ext w w') := by
  obtain ⟨s1, c1, rfl, hc1, _, _⟩ := id h1
  obtain ⟨s2, c2, rfl, hc2, _, _⟩ := id h2
  refine calls_go Try.func26 rfl Try.ntmps26 (Nat.le_of_ble_eq_true rfl) ?_
  repeat (first | refine sp ?_ | (refine is_load ?_; refine ld ?_) | (refine is_store ?_; refine sr ?_) | (refine is_alloc ?_; refine al ?_) | (refine is_box ?_; refine bx ?_) | (refine isl_load ?_; refine ldl ?_) | (refine isl_store ?_; refine srl ?_) | (refine isl_alloc ?_; refine all' ?_) | (refine isl_box ?_; refine bxl ?_))
  refine go_loop (G := Nat × Value) [7, 8] (fun ⟨k, v⟩ => [v, .int .i64 (k : Int)]) [(0, .slice s1 l.length c1), (1, .slice s2 m.length c2), (2, .int .i64 1)]
    (fun ⟨k, v⟩ w' => k ≤ l.length ∧ OwnE w' w.heap.size v ((l.take k).filter fun e => (getE m e.1).isSome) ∧ Ext w w') (fun g => l.length - g.1) (0, .slice none 0 0) rfl ⟨rfl, rfl, rfl, trivial⟩ ⟨by omega, Own.nil _ _ _ _, by (repeat (first | exact Fr.refl _ _ | assumption | apply Fr.drewN | apply Fr.alloc | (apply Fr.transF; assumption) | (refine Fr.setRow ?_ _ (by first | exact Or.inr (by (first | omega | (simp; done) | (simp; omega))) | (exact Or.inl (by first | assumption | (simp; done)))))))⟩ ?_
  rintro ⟨k, v⟩ w1 ⟨hk, ho, hx⟩
  obtain ⟨a, hae⟩ : ∃ a, (l.take k).filter (fun e => (getE m e.1).isSome) = a := ⟨_, rfl⟩
  have hal : a.length ≤ k := by rw [← hae]; exact Nat.le_trans (List.length_filter_le _ _) (by simp; omega)
  rw [hae] at ho
  unfold OwnE at ho
  obtain ⟨sv, cv, rfl, _, _⟩ := ho.slice
  by_cases hlt : k < l.length
  · obtain ⟨b, o, e, hbl, hcell⟩ := (h1.ext hx).at (m := 2) (fun _ => rfl) (by omega) hlt
    subst e
    have e0 := hcell 0 (.int .i64 l[k].1) rfl
    have e1 := hcell 1 (.int .i64 l[k].2) rfl
    have hs1 : (l.take (k + 1)).filter (fun e => (getE m e.1).isSome) = a ++ if (getE m l[k].1).isSome = true then [l[k]] else [] := by
      rw [List.take_succ_eq_append_getElem hlt, List.filter_append, hae]
      by_cases hc : (getE m l[k].1).isSome = true <;> simp [hc]
    generalize l[k] = x at *
    repeat (first | refine sp ?_ | (refine is_load ?_; refine ld ?_) | (refine is_store ?_; refine sr ?_) | (refine is_alloc ?_; refine al ?_) | (refine is_box ?_; refine bx ?_) | (refine isl_load ?_; refine ldl ?_) | (refine isl_store ?_; refine srl ?_) | (refine isl_alloc ?_; refine all' ?_) | (refine isl_box ?_; refine bxl ?_))
    refine go_call rfl rfl (c_refGet _ hi2 _ m x.1 (h2.ext hx) hm) ?_
    rintro _ w2 ⟨rfl, rfl⟩
    unfold getV
    cases hge : getE m x.1 with
    | none =>
      rw [hge] at hs1
      simp only [Option.getD_none, Option.isSome_none, Bool.false_eq_true, if_false, List.append_nil] at hs1 ⊢
      repeat (first | refine sp ?_ | (refine is_load ?_; refine ld ?_) | (refine is_store ?_; refine sr ?_) | (refine is_alloc ?_; refine al ?_) | (refine is_box ?_; refine bx ?_) | (refine isl_load ?_; refine ldl ?_) | (refine isl_store ?_; refine srl ?_) | (refine isl_alloc ?_; refine all' ?_) | (refine isl_box ?_; refine bxl ?_))
      exact go_stop (G := Nat × Value) (k + 1, _) rfl ⟨rfl, rfl, rfl, trivial⟩ ⟨hlt, by rw [hs1]; exact ho, hx⟩ (by show l.length - (k + 1) < l.length - k; omega)
    | some u =>
      rw [hge] at hs1
      simp only [Option.getD_some, Option.isSome_some, if_true] at hs1 ⊢
      repeat (first | refine sp ?_ | (refine is_load ?_; refine ld ?_) | (refine is_store ?_; refine sr ?_) | (refine is_alloc ?_; refine al ?_) | (refine is_box ?_; refine bx ?_) | (refine isl_load ?_; refine ldl ?_) | (refine isl_store ?_; refine srl ?_) | (refine isl_alloc ?_; refine all' ?_) | (refine isl_box ?_; refine bxl ?_))
      refine go_drawE (Fr (fun _ => False) w2) 2 Try.follows (by kernel_rfl) (by kernel_rfl) (by kernel_rfl) ((Fr.refl _ _).drewN 1) ?_
      repeat (first | refine sp ?_ | (refine is_load ?_; refine ld ?_) | (refine is_store ?_; refine sr ?_) | (refine is_alloc ?_; refine al ?_) | (refine is_box ?_; refine bx ?_) | (refine isl_load ?_; refine ldl ?_) | (refine isl_store ?_; refine srl ?_) | (refine isl_alloc ?_; refine all' ?_) | (refine isl_box ?_; refine bxl ?_))
      refine gol_call rfl rfl (c_Choose1 _ x.2 u) ?_
      rintro _ w3 ⟨rfl, rfl⟩
      refine ⟨by show Ext _ _; (repeat (first | exact Fr.refl _ _ | assumption | apply Fr.drewN | apply Fr.alloc | (apply Fr.transF; assumption) | (refine Fr.setRow ?_ _ (by first | exact Or.inr (by (first | omega | (simp; done) | (simp; omega))) | (exact Or.inl (by first | assumption | (simp; done))))))), ?_⟩
      repeat (first | refine sp ?_ | (refine is_load ?_; refine ld ?_) | (refine is_store ?_; refine sr ?_) | (refine is_alloc ?_; refine al ?_) | (refine is_box ?_; refine bx ?_) | (refine isl_load ?_; refine ldl ?_) | (refine isl_store ?_; refine srl ?_) | (refine isl_alloc ?_; refine all' ?_) | (refine isl_box ?_; refine bxl ?_))
      refine gol_litG (l := entC x) rfl rfl (by decide) (by decide) rfl (by show Fr _ _ _; (repeat (first | exact Fr.refl _ _ | assumption | apply Fr.drewN | apply Fr.alloc | (apply Fr.transF; assumption) | (refine Fr.setRow ?_ _ (by first | exact Or.inr (by (first | omega | (simp; done) | (simp; omega))) | (exact Or.inl (by first | assumption | (simp; done)))))))) ?_
      repeat (first | refine sp ?_ | (refine is_load ?_; refine ld ?_) | (refine is_store ?_; refine sr ?_) | (refine is_alloc ?_; refine al ?_) | (refine is_box ?_; refine bx ?_) | (refine isl_load ?_; refine ldl ?_) | (refine isl_store ?_; refine srl ?_) | (refine isl_alloc ?_; refine all' ?_) | (refine isl_box ?_; refine bxl ?_))
      have hx3 : Ext w2 ((w2.drewN 1).alloc (.cells (entC x).toArray 72)) := by (repeat (first | exact Fr.refl _ _ | assumption | apply Fr.drewN | apply Fr.alloc | (apply Fr.transF; assumption) | (refine Fr.setRow ?_ _ (by first | exact Or.inr (by (first | omega | (simp; done) | (simp; omega))) | (exact Or.inl (by first | assumption | (simp; done)))))))
      have hat := At.new (w2.drewN 1) (entC x) 72
      refine gol_appendG (r := 1) (sa := some ⟨(w2.drewN 1).heap.size, 0, none⟩) (news := entC x) (by decide) rfl rfl rfl (Own.ext ho hx3) (by
        intro j u hj
        exact ⟨_, _, rfl, by have := hat.cell (i := j) (v := u) hj; simpa using this⟩) rfl (by intro u hu; simp [entC] at hu; rcases hu with rfl | rfl <;> rfl) (by simp [maxLen]; omega) (by omega) (by have := hx.size; simp; omega) ?_
      intro v4 w4 ho4 hg4 _
      have hx4 : Ext w w4 := ext_grown (hx.trans hx3) (by omega) (Own.ext ho hx3) hg4
      have ho5 : OwnE w4 w.heap.size v4 (a ++ [x]) := by unfold OwnE; rw [List.flatMap_append, List.length_append]; simpa using ho4
      refine ⟨trivial, ?_⟩
      repeat (first | refine sp ?_ | (refine is_load ?_; refine ld ?_) | (refine is_store ?_; refine sr ?_) | (refine is_alloc ?_; refine al ?_) | (refine is_box ?_; refine bx ?_) | (refine isl_load ?_; refine ldl ?_) | (refine isl_store ?_; refine srl ?_) | (refine isl_alloc ?_; refine all' ?_) | (refine isl_box ?_; refine bxl ?_))
      exact go_stop (G := Nat × Value) (k + 1, _) rfl ⟨rfl, rfl, rfl, trivial⟩ ⟨hlt, by rw [hs1]; exact ho5, hx4⟩ (by show l.length - (k + 1) < l.length - k; omega)
  · have e : l.take k = l := List.take_of_length_le (by omega)
    rw [e] at hae
    rw [hae]
    repeat (first | refine sp ?_ | (refine is_load ?_; refine ld ?_) | (refine is_store ?_; refine sr ?_) | (refine is_alloc ?_; refine al ?_) | (refine is_box ?_; refine bx ?_) | (refine isl_load ?_; refine ldl ?_) | (refine isl_store ?_; refine srl ?_) | (refine isl_alloc ?_; refine all' ?_) | (refine isl_box ?_; refine bxl ?_))
    exact go_ret1 rfl rfl ⟨_, rfl, ho, hx⟩

theorem inter_dis {l m : List (Int × Int)} : (l.filter fun e => (getE m e.1).isSome).length = 0 ↔ disB l m = true := by
  unfold disB
  rw [decide_eq_true_iff]
  constructor
  · intro h e he f hf hk
    have h := List.eq_nil_of_length_eq_zero h
    rw [List.filter_eq_nil_iff] at h
    have h := h e he
    cases hg : getE m e.1 with
    | none => exact (getE_none e.1).1 hg f hf hk.symm
    | some v => rw [hg] at h; exact h rfl
  · intro h
    rw [List.filter_eq_nil_iff.2]; · rfl
    intro e he hs
    rw [(getE_none e.1).2 fun f hf hk => h e he f hf hk.symm] at hs
    cases hs

set_option maxHeartbeats 1000000 in
theorem c_Outside (w : World) (hi : Nat) (lv : Value) (l : List (Int × Int)) (x y : Int) (hr : RdU w hi lv entC l) (hh : hi ≤ w.heap.size) (hlen : l.length ≤ 1000000) :
    Calls Try.prog 83 [lv, .int .i64 x, .int .i64 y].toArray w (Ret fun r w' => OwnE w' w.heap.size r (l.filter fun e => decide (e.1 < x ∨ y < e.1)) ∧ Ext w w') := by
  obtain ⟨sa, cap, rfl, hlc, _, _⟩ := id hr
  refine calls_go Try.func83 rfl Try.ntmps83 (Nat.le_of_ble_eq_true rfl) ?_
  repeat (first | refine sp ?_ | (refine is_load ?_; refine ld ?_) | (refine is_store ?_; refine sr ?_) | (refine is_alloc ?_; refine al ?_) | (refine is_box ?_; refine bx ?_) | (refine isl_load ?_; refine ldl ?_) | (refine isl_store ?_; refine srl ?_) | (refine isl_alloc ?_; refine all' ?_) | (refine isl_box ?_; refine bxl ?_))
  refine go_loop (G := Nat × Value) [7, 8] (fun ⟨k, v⟩ => [v, .int .i64 (k : Int)]) [(0, .slice sa l.length cap), (1, .int .i64 x), (2, .int .i64 y)]
    (fun ⟨k, v⟩ w' => k ≤ l.length ∧ OwnE w' w.heap.size v ((l.take k).filter fun e => decide (e.1 < x ∨ y < e.1)) ∧ Ext w w') (fun g => l.length - g.1) (0, .slice none 0 0) rfl ⟨rfl, rfl, rfl, trivial⟩ ⟨by omega, Own.nil _ _ _ _, by (repeat (first | exact Fr.refl _ _ | assumption | apply Fr.drewN | apply Fr.alloc | (apply Fr.transF; assumption) | (refine Fr.setRow ?_ _ (by first | exact Or.inr (by (first | omega | (simp; done) | (simp; omega))) | (exact Or.inl (by first | assumption | (simp; done)))))))⟩ ?_
  rintro ⟨k, v⟩ w1 ⟨hk, ho, hx⟩
  obtain ⟨a, hae⟩ : ∃ a, (l.take k).filter (fun e => decide (e.1 < x ∨ y < e.1)) = a := ⟨_, rfl⟩
  have hal : a.length ≤ k := by rw [← hae]; exact Nat.le_trans (List.length_filter_le _ _) (by simp; omega)
  rw [hae] at ho
  unfold OwnE at ho
  obtain ⟨sv, cv, rfl, _, _⟩ := ho.slice
  by_cases hlt : k < l.length
  · obtain ⟨b, o, e, hbl, hcell⟩ := (hr.ext hx).at (m := 2) (fun _ => rfl) (by omega) hlt
    subst e
    have e0 := hcell 0 (.int .i64 l[k].1) rfl
    have hs1 : (l.take (k + 1)).filter (fun e => decide (e.1 < x ∨ y < e.1)) = a ++ if l[k].1 < x ∨ y < l[k].1 then [l[k]] else [] := by
      rw [List.take_succ_eq_append_getElem hlt, List.filter_append, hae]
      by_cases hc : l[k].1 < x ∨ y < l[k].1 <;> simp [hc]
    generalize l[k] = z at *
    have hst : (∀ j u, (entC z)[j]? = some u → w1.cell? ((⟨b, o + k * 2, none⟩ : Addr).add j) = some u) := fun j u hj => by rw [addr_add]; exact hcell j u hj
    by_cases hc1 : z.1 < x
    · rw [if_pos (Or.inl hc1)] at hs1
      repeat (first | refine sp ?_ | (refine is_load ?_; refine ld ?_) | (refine is_store ?_; refine sr ?_) | (refine is_alloc ?_; refine al ?_) | (refine is_box ?_; refine bx ?_) | (refine isl_load ?_; refine ldl ?_) | (refine isl_store ?_; refine srl ?_) | (refine isl_alloc ?_; refine all' ?_) | (refine isl_box ?_; refine bxl ?_))
      refine go_load (v := .agg (entC z).toArray) rfl rfl (ld_cells (m := 2) rfl (by decide) hst) ?_
      unfold entC
      repeat (first | refine sp ?_ | (refine is_load ?_; refine ld ?_) | (refine is_store ?_; refine sr ?_) | (refine is_alloc ?_; refine al ?_) | (refine is_box ?_; refine bx ?_) | (refine isl_load ?_; refine ldl ?_) | (refine isl_store ?_; refine srl ?_) | (refine isl_alloc ?_; refine all' ?_) | (refine isl_box ?_; refine bxl ?_))
      refine go_pushG (l := entC z) (by decide) rfl rfl rfl rfl ho rfl (by simp [Value.oneCell']) (by omega) (by simp [maxLen]; omega) (by omega) (by have := hx.size; omega) ?_
      intro v2 w2 ho2 hg2 _
      have hx2 : Ext w w2 := ext_grown hx (by omega) ho hg2
      have ho3 : OwnE w2 w.heap.size v2 (a ++ [z]) := by unfold OwnE; rw [List.flatMap_append, List.length_append]; simpa using ho2
      repeat (first | refine sp ?_ | (refine is_load ?_; refine ld ?_) | (refine is_store ?_; refine sr ?_) | (refine is_alloc ?_; refine al ?_) | (refine is_box ?_; refine bx ?_) | (refine isl_load ?_; refine ldl ?_) | (refine isl_store ?_; refine srl ?_) | (refine isl_alloc ?_; refine all' ?_) | (refine isl_box ?_; refine bxl ?_))
      exact go_stop (G := Nat × Value) (k + 1, _) rfl ⟨rfl, rfl, rfl, trivial⟩ ⟨hlt, by rw [hs1]; exact ho3, hx2⟩ (by show l.length - (k + 1) < l.length - k; omega)
    · by_cases hc2 : y < z.1
      · rw [if_pos (Or.inr hc2)] at hs1
        repeat (first | refine sp ?_ | (refine is_load ?_; refine ld ?_) | (refine is_store ?_; refine sr ?_) | (refine is_alloc ?_; refine al ?_) | (refine is_box ?_; refine bx ?_) | (refine isl_load ?_; refine ldl ?_) | (refine isl_store ?_; refine srl ?_) | (refine isl_alloc ?_; refine all' ?_) | (refine isl_box ?_; refine bxl ?_))
        refine go_load (v := .agg (entC z).toArray) rfl rfl (ld_cells (m := 2) rfl (by decide) hst) ?_
        unfold entC
        repeat (first | refine sp ?_ | (refine is_load ?_; refine ld ?_) | (refine is_store ?_; refine sr ?_) | (refine is_alloc ?_; refine al ?_) | (refine is_box ?_; refine bx ?_) | (refine isl_load ?_; refine ldl ?_) | (refine isl_store ?_; refine srl ?_) | (refine isl_alloc ?_; refine all' ?_) | (refine isl_box ?_; refine bxl ?_))
        refine go_pushG (l := entC z) (by decide) rfl rfl rfl rfl ho rfl (by simp [Value.oneCell']) (by omega) (by simp [maxLen]; omega) (by omega) (by have := hx.size; omega) ?_
        intro v2 w2 ho2 hg2 _
        have hx2 : Ext w w2 := ext_grown hx (by omega) ho hg2
        have ho3 : OwnE w2 w.heap.size v2 (a ++ [z]) := by unfold OwnE; rw [List.flatMap_append, List.length_append]; simpa using ho2
        repeat (first | refine sp ?_ | (refine is_load ?_; refine ld ?_) | (refine is_store ?_; refine sr ?_) | (refine is_alloc ?_; refine al ?_) | (refine is_box ?_; refine bx ?_) | (refine isl_load ?_; refine ldl ?_) | (refine isl_store ?_; refine srl ?_) | (refine isl_alloc ?_; refine all' ?_) | (refine isl_box ?_; refine bxl ?_))
        exact go_stop (G := Nat × Value) (k + 1, _) rfl ⟨rfl, rfl, rfl, trivial⟩ ⟨hlt, by rw [hs1]; exact ho3, hx2⟩ (by show l.length - (k + 1) < l.length - k; omega)
      · rw [if_neg (by omega), List.append_nil] at hs1
        repeat (first | refine sp ?_ | (refine is_load ?_; refine ld ?_) | (refine is_store ?_; refine sr ?_) | (refine is_alloc ?_; refine al ?_) | (refine is_box ?_; refine bx ?_) | (refine isl_load ?_; refine ldl ?_) | (refine isl_store ?_; refine srl ?_) | (refine isl_alloc ?_; refine all' ?_) | (refine isl_box ?_; refine bxl ?_))
        exact go_stop (G := Nat × Value) (k + 1, _) rfl ⟨rfl, rfl, rfl, trivial⟩ ⟨hlt, by rw [hs1]; exact ho, hx⟩ (by show l.length - (k + 1) < l.length - k; omega)
  · have e : l.take k = l := List.take_of_length_le (by omega)
    rw [e] at hae
    rw [hae]
    repeat (first | refine sp ?_ | (refine is_load ?_; refine ld ?_) | (refine is_store ?_; refine sr ?_) | (refine is_alloc ?_; refine al ?_) | (refine is_box ?_; refine bx ?_) | (refine isl_load ?_; refine ldl ?_) | (refine isl_store ?_; refine srl ?_) | (refine isl_alloc ?_; refine all' ?_) | (refine isl_box ?_; refine bxl ?_))
    exact go_ret1 rfl rfl ⟨_, rfl, ho, hx⟩

theorem c_Delete (w : World) (hi : Nat) (lv : Value) (l : List (Int × Int)) (x : Int) (hr : RdU w hi lv entC l) (hh : hi ≤ w.heap.size) (hlen : l.length ≤ 1000000) :
    Calls Try.prog 55 [lv, .int .i64 x].toArray w (Ret fun r w' => OwnE w' w.heap.size r (l.filter fun e => decide (e.1 < x ∨ x < e.1)) ∧ Ext w w') := by
  obtain ⟨sa, cap, rfl, hlc, _, _⟩ := id hr
  refine calls_go Try.func55 rfl Try.ntmps55 (Nat.le_of_ble_eq_true rfl) ?_
  repeat (first | refine sp ?_ | (refine is_load ?_; refine ld ?_) | (refine is_store ?_; refine sr ?_) | (refine is_alloc ?_; refine al ?_) | (refine is_box ?_; refine bx ?_) | (refine isl_load ?_; refine ldl ?_) | (refine isl_store ?_; refine srl ?_) | (refine isl_alloc ?_; refine all' ?_) | (refine isl_box ?_; refine bxl ?_))
  refine go_call rfl rfl (c_Outside _ hi _ l x x hr hh hlen) ?_
  rintro v w1 ⟨ho, hx⟩
  obtain ⟨sv, cv, rfl, _, _⟩ := Own.slice ho
  repeat (first | refine sp ?_ | (refine is_load ?_; refine ld ?_) | (refine is_store ?_; refine sr ?_) | (refine is_alloc ?_; refine al ?_) | (refine is_box ?_; refine bx ?_) | (refine isl_load ?_; refine ldl ?_) | (refine isl_store ?_; refine srl ?_) | (refine isl_alloc ?_; refine all' ?_) | (refine isl_box ?_; refine bxl ?_))
  exact go_ret1 rfl rfl ⟨_, rfl, ho, hx⟩

theorem cmp_dr {l m : List (Int × Int)} {k : Nat} (h1 : k < l.length) (h2 : k < m.length) : cmpL (l.drop k) (m.drop k) = if l[k].1 < m[k].1 ∨ (l[k].1 = m[k].1 ∧ l[k].2 < m[k].2) then -1 else if l[k] = m[k] then cmpL (l.drop (k + 1)) (m.drop (k + 1)) else 1 := by
  conv => lhs; rw [List.drop_eq_getElem_cons h1, List.drop_eq_getElem_cons h2]
  rfl

set_option maxHeartbeats 1000000 in
theorem c_refCompare (w : World) (hi1 hi2 : Nat) (v1 v2 : Value) (l m : List (Int × Int)) (h1 : RdU w hi1 v1 entC l) (h2 : RdU w hi2 v2 entC m) (hh1 : hi1 ≤ w.heap.size) (hh2 : hi2 ≤ w.heap.size) (hl : l.length ≤ 1000000) (hm : m.length ≤ 1000000) :
    Calls Try.prog 27 [v1, v2].toArray w (Ret fun r w' => r = .int .i64 (cmpL l m) ∧ Ext w w') := by
  obtain ⟨s1, c1, rfl, hc1, _, _⟩ := id h1
  obtain ⟨s2, c2, rfl, hc2, _, _⟩ := id h2
  refine calls_go Try.func27 rfl Try.ntmps27 (Nat.le_of_ble_eq_true rfl) ?_
  repeat (first | refine sp ?_ | (refine is_load ?_; refine ld ?_) | (refine is_store ?_; refine sr ?_) | (refine is_alloc ?_; refine al ?_) | (refine is_box ?_; refine bx ?_) | (refine isl_load ?_; refine ldl ?_) | (refine isl_store ?_; refine srl ?_) | (refine isl_alloc ?_; refine all' ?_) | (refine isl_box ?_; refine bxl ?_))
  refine go_loop (G := Nat) [5] (fun k => [.int .i64 (k : Int)]) [(0, .slice s1 l.length c1), (1, .slice s2 m.length c2)]
    (fun k w' => k ≤ l.length ∧ k ≤ m.length ∧ cmpL (l.drop k) (m.drop k) = cmpL l m ∧ Ext w w') (fun k => l.length - k) 0 rfl ⟨rfl, rfl, trivial⟩ ⟨by omega, by omega, rfl, by (repeat (first | exact Fr.refl _ _ | assumption | apply Fr.drewN | apply Fr.alloc | (apply Fr.transF; assumption) | (refine Fr.setRow ?_ _ (by first | exact Or.inr (by (first | omega | (simp; done) | (simp; omega))) | (exact Or.inl (by first | assumption | (simp; done)))))))⟩ ?_
  rintro k w1 ⟨hk, hk2, hcm, hx⟩
  by_cases hlt : k < l.length
  · by_cases hlt2 : k < m.length
    · obtain ⟨b, o, e, _, hcell⟩ := (h1.ext hx).at (m := 2) (fun _ => rfl) (by omega) hlt
      subst e
      obtain ⟨b2, o2, e, _, hcell2⟩ := (h2.ext hx).at (m := 2) (fun _ => rfl) (by omega) hlt2
      subst e
      rw [cmp_dr hlt hlt2] at hcm
      generalize l[k] = x at *
      generalize m[k] = y at *
      repeat (first | refine sp ?_ | (refine is_load ?_; refine ld ?_) | (refine is_store ?_; refine sr ?_) | (refine is_alloc ?_; refine al ?_) | (refine is_box ?_; refine bx ?_) | (refine isl_load ?_; refine ldl ?_) | (refine isl_store ?_; refine srl ?_) | (refine isl_alloc ?_; refine all' ?_) | (refine isl_box ?_; refine bxl ?_))
      refine go_cut (G := Nat × Nat) [6, 7] (fun ⟨a, b⟩ => [ptr a, ptr b]) [(0, .slice (some ⟨b, o, none⟩) l.length c1), (1, .slice (some ⟨b2, o2, none⟩) m.length c2), (5, .int .i64 (k : Int))]
        (fun ⟨a, b⟩ w' => At w' a (entC x) 72 ∧ At w' b (entC y) 72 ∧ Ext w1 w') ?_ ?_
      · refine go_sched (Fr (fun _ => False) w1) (.op 0 (.op 1 (.op 2 (.op 3 (.op 4 (.op 5 (.op 6 (.op 7 (.alt 8 (.op 9 (.op 10 (.op 11 (.fin)))) (.op 9 (.op 8 (.op 10 (.op 11 (.fin)))))))))))))) Try.follows (by kernel_rfl) (by kernel_rfl) (by kernel_rfl) ((Fr.refl _ _).drewN 1) ?_
        repeat (first | refine sp ?_ | (refine is_load ?_; refine ld ?_) | (refine is_store ?_; refine sr ?_) | (refine is_alloc ?_; refine al ?_) | (refine is_box ?_; refine bx ?_) | (refine isl_load ?_; refine ldl ?_) | (refine isl_store ?_; refine srl ?_) | (refine isl_alloc ?_; refine all' ?_) | (refine isl_box ?_; refine bxl ?_))
        refine gol_load (v := .agg (entC x).toArray) rfl rfl (ldD_cells (m := 2) (w := w1) rfl (by decide) (fun j u hj => by rw [addr_add]; exact hcell j u hj) id) ?_
        repeat (first | refine sp ?_ | (refine is_load ?_; refine ld ?_) | (refine is_store ?_; refine sr ?_) | (refine is_alloc ?_; refine al ?_) | (refine is_box ?_; refine bx ?_) | (refine isl_load ?_; refine ldl ?_) | (refine isl_store ?_; refine srl ?_) | (refine isl_alloc ?_; refine all' ?_) | (refine isl_box ?_; refine bxl ?_))
        refine gol_load (v := .agg (entC y).toArray) rfl rfl (ldD_cells (m := 2) (w := w1) rfl (by decide) (fun j u hj => by rw [addr_add]; exact hcell2 j u hj) id) ?_
        unfold entC
        repeat (first | refine sp ?_ | (refine is_load ?_; refine ld ?_) | (refine is_store ?_; refine sr ?_) | (refine is_alloc ?_; refine al ?_) | (refine is_box ?_; refine bx ?_) | (refine isl_load ?_; refine ldl ?_) | (refine isl_store ?_; refine srl ?_) | (refine isl_alloc ?_; refine all' ?_) | (refine isl_box ?_; refine bxl ?_))
        refine go_alt rfl ?_ ?_
        · repeat (first | refine sp ?_ | (refine is_load ?_; refine ld ?_) | (refine is_store ?_; refine sr ?_) | (refine is_alloc ?_; refine al ?_) | (refine is_box ?_; refine bx ?_) | (refine isl_load ?_; refine ldl ?_) | (refine isl_store ?_; refine srl ?_) | (refine isl_alloc ?_; refine all' ?_) | (refine isl_box ?_; refine bxl ?_))
          exact go_stop (G := Nat × Nat) (_, _) rfl ⟨rfl, rfl, rfl, trivial⟩ ⟨by (repeat (first | assumption | (refine At.new' (by (first | omega | (simp; done) | (simp; omega))) _ _) | apply At.alloc | apply At.drewN | apply At.setRow | (apply At.setRow_neF; first | assumption | (apply Ne.symm; assumption) | omega) | (apply At.extF; assumption))), by (repeat (first | assumption | (refine At.new' (by (first | omega | (simp; done) | (simp; omega))) _ _) | apply At.alloc | apply At.drewN | apply At.setRow | (apply At.setRow_neF; first | assumption | (apply Ne.symm; assumption) | omega) | (apply At.extF; assumption))), by (repeat (first | exact Fr.refl _ _ | assumption | apply Fr.drewN | apply Fr.alloc | (apply Fr.transF; assumption) | (refine Fr.setRow ?_ _ (by first | exact Or.inr (by (first | omega | (simp; done) | (simp; omega))) | (exact Or.inl (by first | assumption | (simp; done)))))))⟩ trivial
        · repeat (first | refine sp ?_ | (refine is_load ?_; refine ld ?_) | (refine is_store ?_; refine sr ?_) | (refine is_alloc ?_; refine al ?_) | (refine is_box ?_; refine bx ?_) | (refine isl_load ?_; refine ldl ?_) | (refine isl_store ?_; refine srl ?_) | (refine isl_alloc ?_; refine all' ?_) | (refine isl_box ?_; refine bxl ?_))
          exact go_stop (G := Nat × Nat) (_, _) rfl ⟨rfl, rfl, rfl, trivial⟩ ⟨by (repeat (first | assumption | (refine At.new' (by (first | omega | (simp; done) | (simp; omega))) _ _) | apply At.alloc | apply At.drewN | apply At.setRow | (apply At.setRow_neF; first | assumption | (apply Ne.symm; assumption) | omega) | (apply At.extF; assumption))), by (repeat (first | assumption | (refine At.new' (by (first | omega | (simp; done) | (simp; omega))) _ _) | apply At.alloc | apply At.drewN | apply At.setRow | (apply At.setRow_neF; first | assumption | (apply Ne.symm; assumption) | omega) | (apply At.extF; assumption))), by (repeat (first | exact Fr.refl _ _ | assumption | apply Fr.drewN | apply Fr.alloc | (apply Fr.transF; assumption) | (refine Fr.setRow ?_ _ (by first | exact Or.inr (by (first | omega | (simp; done) | (simp; omega))) | (exact Or.inl (by first | assumption | (simp; done)))))))⟩ trivial
      · rintro ⟨a, d⟩ w2 ⟨ha, hd, hx2⟩
        have hx2' := hx.trans hx2
        have he := ent_eqL x y
        obtain ⟨xk, xv⟩ := x
        obtain ⟨yk, yv⟩ := y
        unfold entC at ha hd he
        rcases Int.lt_trichotomy xk yk with hc | hc | hc
        · rw [if_pos (Or.inl hc)] at hcm
          rw [← hcm]
          repeat (first | refine sp ?_ | (refine is_load ?_; refine ld ?_) | (refine is_store ?_; refine sr ?_) | (refine is_alloc ?_; refine al ?_) | (refine is_box ?_; refine bx ?_) | (refine isl_load ?_; refine ldl ?_) | (refine isl_store ?_; refine srl ?_) | (refine isl_alloc ?_; refine all' ?_) | (refine isl_box ?_; refine bxl ?_))
          exact go_ret1 rfl rfl ⟨_, rfl, rfl, hx2'⟩
        · subst hc
          by_cases hv : xv < yv
          · rw [if_pos (Or.inr ⟨rfl, hv⟩)] at hcm
            rw [← hcm]
            repeat (first | refine sp ?_ | (refine is_load ?_; refine ld ?_) | (refine is_store ?_; refine sr ?_) | (refine is_alloc ?_; refine al ?_) | (refine is_box ?_; refine bx ?_) | (refine isl_load ?_; refine ldl ?_) | (refine isl_store ?_; refine srl ?_) | (refine isl_alloc ?_; refine all' ?_) | (refine isl_box ?_; refine bxl ?_))
            exact go_ret1 rfl rfl ⟨_, rfl, rfl, hx2'⟩
          · rw [if_neg (by simp; omega)] at hcm
            by_cases hv2 : xv = yv
            · subst hv2
              rw [if_pos rfl] at hcm
              repeat (first | refine sp ?_ | (refine is_load ?_; refine ld ?_) | (refine is_store ?_; refine sr ?_) | (refine is_alloc ?_; refine al ?_) | (refine is_box ?_; refine bx ?_) | (refine isl_load ?_; refine ldl ?_) | (refine isl_store ?_; refine srl ?_) | (refine isl_alloc ?_; refine all' ?_) | (refine isl_box ?_; refine bxl ?_))
              refine go_as 48 (u' := .bool false) rfl (by rw [he]; simp) ?_
              repeat (first | refine sp ?_ | (refine is_load ?_; refine ld ?_) | (refine is_store ?_; refine sr ?_) | (refine is_alloc ?_; refine al ?_) | (refine is_box ?_; refine bx ?_) | (refine isl_load ?_; refine ldl ?_) | (refine isl_store ?_; refine srl ?_) | (refine isl_alloc ?_; refine all' ?_) | (refine isl_box ?_; refine bxl ?_))
              exact go_stop (G := Nat) (k + 1) rfl ⟨rfl, rfl, trivial⟩ ⟨hlt, hlt2, hcm, hx2'⟩ (by show l.length - (k + 1) < l.length - k; omega)
            · rw [if_neg (by simp; omega)] at hcm
              rw [← hcm]
              repeat (first | refine sp ?_ | (refine is_load ?_; refine ld ?_) | (refine is_store ?_; refine sr ?_) | (refine is_alloc ?_; refine al ?_) | (refine is_box ?_; refine bx ?_) | (refine isl_load ?_; refine ldl ?_) | (refine isl_store ?_; refine srl ?_) | (refine isl_alloc ?_; refine all' ?_) | (refine isl_box ?_; refine bxl ?_))
              refine go_as 48 (u' := .bool true) rfl (by rw [he]; simp [hv2]) ?_
              repeat (first | refine sp ?_ | (refine is_load ?_; refine ld ?_) | (refine is_store ?_; refine sr ?_) | (refine is_alloc ?_; refine al ?_) | (refine is_box ?_; refine bx ?_) | (refine isl_load ?_; refine ldl ?_) | (refine isl_store ?_; refine srl ?_) | (refine isl_alloc ?_; refine all' ?_) | (refine isl_box ?_; refine bxl ?_))
              exact go_ret1 rfl rfl ⟨_, rfl, rfl, hx2'⟩
        · rw [if_neg (by simp; omega), if_neg (by simp; omega)] at hcm
          rw [← hcm]
          repeat (first | refine sp ?_ | (refine is_load ?_; refine ld ?_) | (refine is_store ?_; refine sr ?_) | (refine is_alloc ?_; refine al ?_) | (refine is_box ?_; refine bx ?_) | (refine isl_load ?_; refine ldl ?_) | (refine isl_store ?_; refine srl ?_) | (refine isl_alloc ?_; refine all' ?_) | (refine isl_box ?_; refine bxl ?_))
          refine go_as 48 (u' := .bool true) rfl (by rw [he]; simp; omega) ?_
          repeat (first | refine sp ?_ | (refine is_load ?_; refine ld ?_) | (refine is_store ?_; refine sr ?_) | (refine is_alloc ?_; refine al ?_) | (refine is_box ?_; refine bx ?_) | (refine isl_load ?_; refine ldl ?_) | (refine isl_store ?_; refine srl ?_) | (refine isl_alloc ?_; refine all' ?_) | (refine isl_box ?_; refine bxl ?_))
          exact go_ret1 rfl rfl ⟨_, rfl, rfl, hx2'⟩
    · obtain rfl : k = m.length := by omega
      rw [List.drop_length, List.drop_eq_getElem_cons hlt] at hcm
      rw [← hcm]
      repeat (first | refine sp ?_ | (refine is_load ?_; refine ld ?_) | (refine is_store ?_; refine sr ?_) | (refine is_alloc ?_; refine al ?_) | (refine is_box ?_; refine bx ?_) | (refine isl_load ?_; refine ldl ?_) | (refine isl_store ?_; refine srl ?_) | (refine isl_alloc ?_; refine all' ?_) | (refine isl_box ?_; refine bxl ?_))
      exact go_ret1 rfl rfl ⟨_, rfl, rfl, hx⟩
  · obtain rfl : k = l.length := by omega
    rw [List.drop_length] at hcm
    by_cases hlt2 : l.length < m.length
    · rw [List.drop_eq_getElem_cons hlt2] at hcm
      rw [← hcm]
      repeat (first | refine sp ?_ | (refine is_load ?_; refine ld ?_) | (refine is_store ?_; refine sr ?_) | (refine is_alloc ?_; refine al ?_) | (refine is_box ?_; refine bx ?_) | (refine isl_load ?_; refine ldl ?_) | (refine isl_store ?_; refine srl ?_) | (refine isl_alloc ?_; refine all' ?_) | (refine isl_box ?_; refine bxl ?_))
      exact go_ret1 rfl rfl ⟨_, rfl, rfl, hx⟩
    · have e : m.length = l.length := by omega
      rw [← e, List.drop_length] at hcm
      rw [← hcm]
      repeat (first | refine sp ?_ | (refine is_load ?_; refine ld ?_) | (refine is_store ?_; refine sr ?_) | (refine is_alloc ?_; refine al ?_) | (refine is_box ?_; refine bx ?_) | (refine isl_load ?_; refine ldl ?_) | (refine isl_store ?_; refine srl ?_) | (refine isl_alloc ?_; refine all' ?_) | (refine isl_box ?_; refine bxl ?_))
      exact go_ret1 rfl rfl ⟨_, rfl, rfl, hx⟩

end Go.Proofs.Yteghhalnpdikoaa

namespace Go.Proofs.Yteghhalnpdikoaa
open Go.Vc

theorem below_eq {l a c : List (Int × Int)} {e : Int × Int} {y : Int} (hs : Srt l) (h : l.filter (pK fun k => decide (k ≤ y)) = a ++ e :: c) : l.filter (pK fun k => decide (k < e.1)) = a := by
  have he : e ∈ l.filter (pK fun k => decide (k ≤ y)) := by rw [h]; simp
  have hey : e.1 ≤ y := by have := (List.mem_filter.1 he).2; simpa [pK] using this
  have h1 : l.filter (pK fun k => decide (k < e.1)) = (l.filter (pK fun k => decide (k ≤ y))).filter (pK fun k => decide (k < e.1)) := by
    rw [List.filter_filter]
    refine List.filter_congr fun z hz => ?_
    simp only [pK]
    by_cases hc : z.1 < e.1
    · simp [hc, show z.1 ≤ y by omega]
    · simp [hc]
  have h2 : Srt (a ++ e :: c) := by rw [← h]; exact List.Pairwise.filter _ hs
  have h3 := List.pairwise_append.1 h2
  have h4 := List.pairwise_cons.1 h3.2.1
  rw [h1, h, List.filter_append, List.filter_cons, if_neg (by simp [pK]), List.filter_eq_self.2 (fun z hz => by have := h3.2.2 z hz e (by simp); simp [pK]; omega), List.filter_eq_nil_iff.2 (fun z hz => by have := h4.1 z hz; simp [pK]; omega), List.append_nil]

theorem rng_le {x y : Int} (l : List (Int × Int)) : rng x y l = (l.filter (pK fun k => decide (k ≤ y))).filter (pK fun k => decide (x ≤ k)) := by
  rw [List.filter_filter]
  refine List.filter_congr fun z hz => ?_
  simp [pK, inR, Bool.and_comm]

theorem desc_fin {l a c : List (Int × Int)} {x y : Int} {lim : Nat} (h : l.filter (pK fun k => decide (k ≤ y)) = a ++ c) (hc : ∀ e ∈ c, x ≤ e.1) (h2 : (∀ e ∈ a, e.1 < x) ∧ c.length ≤ lim ∨ c.length = lim) : (rng x y l).reverse.take lim = c.reverse := by
  have hcc : c.filter (pK fun k => decide (x ≤ k)) = c := List.filter_eq_self.2 fun e he => by have := hc e he; simp [pK]; omega
  rw [rng_le, h, List.filter_append, hcc, List.reverse_append]
  rcases h2 with ⟨h2, h3⟩ | h2
  · rw [List.filter_eq_nil_iff.2 (fun e he => by have := h2 e he; simp [pK]; omega), List.reverse_nil, List.append_nil, List.take_of_length_le (by simp; omega)]
  · rw [List.take_left' (by simp [h2])]

set_option maxHeartbeats 4000000 in
theorem c_descending (w : World) (lo p : Nat) (q : AP) (A : AR) (t : Tr) (x y : Int) (lim : Nat) (ha : ArP w lo p q A) (hi : InA A t) (he : InE t.ents) (ho : Srt t.ents) (hs : t.sz ≤ 1000000) (h3 : lim ≤ 1000000) :
    Calls Try.prog 79 [ptr p, .int .u32 (t.root : Int), .int .i64 x, .int .i64 y, .int .i64 (lim : Int)].toArray w (Ret fun r w' => OwnE w' w.heap.size r ((rng x y t.ents).reverse.take lim) ∧ (∃ A' n, ArP w' lo p q A' ∧ Rds A A' n) ∧ Fr (fun z => z = p) w w') := by
  have hpl := ha.lt p ha.fpp
  refine calls_go Try.func79 rfl Try.ntmps79 (Nat.le_of_ble_eq_true rfl) ?_
  repeat (first | refine sp ?_ | (refine is_load ?_; refine ld ?_) | (refine is_store ?_; refine sr ?_) | (refine is_alloc ?_; refine al ?_) | (refine is_box ?_; refine bx ?_) | (refine isl_load ?_; refine ldl ?_) | (refine isl_store ?_; refine srl ?_) | (refine isl_alloc ?_; refine all' ?_) | (refine isl_box ?_; refine bxl ?_))
  refine go_call rfl rfl (c_Floor w lo p q A t y ha hi he ho hs) ?_
  rintro _ w1 ⟨rfl, A1, ha1, hR1, hf1⟩
  have hs1 := hf1.size
  obtain ⟨F, hF⟩ : ∃ F, t.ents.filter (pK fun k => decide (k ≤ y)) = F := ⟨_, rfl⟩
  rw [hF]
  unfold entV
  repeat (first | refine sp ?_ | (refine is_load ?_; refine ld ?_) | (refine is_store ?_; refine sr ?_) | (refine is_alloc ?_; refine al ?_) | (refine is_box ?_; refine bx ?_) | (refine isl_load ?_; refine ldl ?_) | (refine isl_store ?_; refine srl ?_) | (refine isl_alloc ?_; refine all' ?_) | (refine isl_box ?_; refine bxl ?_))
  refine go_loop (G := List (Int × Int) × List (Int × Int) × Value × AR × Nat) [11, 13] (fun ⟨a, c, v, _, _⟩ => [v, .bool a.getLast?.isSome]) [(0, ptr p), (1, .int .u32 (t.root : Int)), (2, .int .i64 x), (4, .int .i64 (lim : Int)), (12, ptr w1.heap.size)]
    (fun ⟨a, c, v, B, n⟩ w' => F = a ++ c ∧ (∀ e ∈ c, x ≤ e.1) ∧ c.length ≤ lim ∧ OwnE w' (w1.heap.size + 1) v c.reverse ∧ ArP w' lo p q B ∧ Rds A B n ∧ Fr (fun z => z = p) w w' ∧ w1.heap.size + 1 ≤ w'.heap.size ∧ At w' w1.heap.size (entC (a.getLast?.getD (0, 0))) 72)
    (fun g => g.1.length) (F, [], .slice none 0 0, A1, t.ht) rfl ⟨rfl, rfl, rfl, rfl, rfl, trivial⟩ ⟨by simp, (by intro e he; cases he), by simp, Own.nil _ _ _ _, ha1.ext (by (repeat (first | exact Fr.refl _ _ | assumption | apply Fr.drewN | apply Fr.alloc | (apply Fr.transF; assumption) | (refine Fr.setRow ?_ _ (by first | exact Or.inr (by (first | omega | (simp; done) | (simp; omega))) | (exact Or.inl (by first | assumption | (simp; done)))))))), hR1, hf1.trans (by (repeat (first | exact Fr.refl _ _ | assumption | apply Fr.drewN | apply Fr.alloc | (apply Fr.transF; assumption) | (refine Fr.setRow ?_ _ (by first | exact Or.inr (by (first | omega | (simp; done) | (simp; omega))) | (exact Or.inl (by first | assumption | (simp; done)))))))), by simp, by (repeat (first | assumption | (refine At.new' (by (first | omega | (simp; done) | (simp; omega))) _ _) | apply At.alloc | apply At.drewN | apply At.setRow | (apply At.setRow_neF; first | assumption | (apply Ne.symm; assumption) | omega) | (apply At.extF; assumption)))⟩ ?_
  rintro ⟨a, c, v, B, n⟩ w2 ⟨hFa, hc, hcl, ho2, ha2, hB, hf2, hs2, hat⟩
  obtain ⟨sv, cv, rfl, _, _⟩ := Own.slice ho2
  rw [List.length_reverse] at *
  rcases List.eq_nil_or_concat a with rfl | ⟨a', e, rfl⟩
  · repeat (first | refine sp ?_ | (refine is_load ?_; refine ld ?_) | (refine is_store ?_; refine sr ?_) | (refine is_alloc ?_; refine al ?_) | (refine is_box ?_; refine bx ?_) | (refine isl_load ?_; refine ldl ?_) | (refine isl_store ?_; refine srl ?_) | (refine isl_alloc ?_; refine all' ?_) | (refine isl_box ?_; refine bxl ?_))
    refine go_ret1 rfl rfl ⟨_, rfl, ?_, ⟨B, n, ha2, hB⟩, hf2⟩
    rw [desc_fin (l := t.ents) (a := []) (c := c) (by rw [hF]; exact hFa) hc (Or.inl ⟨(by intro e he; cases he), hcl⟩)]
    exact OwnE.mono ho2 (show w.heap.size ≤ w1.heap.size + 1 by omega)
  rw [List.concat_eq_append] at hFa hat ⊢
  rw [show (a' ++ [e]).getLast? = some e by simp] at hat
  refine go_as 13 (u' := .bool true) rfl (by simp) ?_
  have hFe : t.ents.filter (pK fun k => decide (k ≤ y)) = a' ++ e :: c := by rw [hF, hFa]; simp
  have hbel := below_eq ho hFe
  have hsr : Srt (a' ++ e :: c) := by rw [← hFe]; exact List.Pairwise.filter _ ho
  have hFl : F.length ≤ 1000000 := by rw [← hF]; exact Nat.le_trans (List.length_filter_le _ _) (by rw [t.len]; omega)
  have hcl2 : c.length ≤ 1000000 := by have := congrArg List.length hFa; simp at this; omega
  change At w2 w1.heap.size (entC e) _ at hat
  by_cases hx : x ≤ e.1
  rotate_left
  · repeat (first | refine sp ?_ | (refine is_load ?_; refine ld ?_) | (refine is_store ?_; refine sr ?_) | (refine is_alloc ?_; refine al ?_) | (refine is_box ?_; refine bx ?_) | (refine isl_load ?_; refine ldl ?_) | (refine isl_store ?_; refine srl ?_) | (refine isl_alloc ?_; refine all' ?_) | (refine isl_box ?_; refine bxl ?_))
    refine go_ret1 rfl rfl ⟨_, rfl, ?_, ⟨B, n, ha2, hB⟩, hf2⟩
    rw [desc_fin (l := t.ents) (a := a' ++ [e]) (c := c) (by rw [hF]; exact hFa) hc (Or.inl ⟨fun z hz => ?_, hcl⟩)]
    · exact OwnE.mono ho2 (show w.heap.size ≤ w1.heap.size + 1 by omega)
    · rcases List.mem_append.1 hz with h | h
      · have := (List.pairwise_append.1 hsr).2.2 z h e (by simp); omega
      · simp at h; subst h; omega
  by_cases hlt : c.length < lim
  rotate_left
  · repeat (first | refine sp ?_ | (refine is_load ?_; refine ld ?_) | (refine is_store ?_; refine sr ?_) | (refine is_alloc ?_; refine al ?_) | (refine is_box ?_; refine bx ?_) | (refine isl_load ?_; refine ldl ?_) | (refine isl_store ?_; refine srl ?_) | (refine isl_alloc ?_; refine all' ?_) | (refine isl_box ?_; refine bxl ?_))
    refine go_ret1 rfl rfl ⟨_, rfl, ?_, ⟨B, n, ha2, hB⟩, hf2⟩
    rw [desc_fin (l := t.ents) (a := a' ++ [e]) (c := c) (by rw [hF]; exact hFa) hc (Or.inr (by omega))]
    exact OwnE.mono ho2 (show w.heap.size ≤ w1.heap.size + 1 by omega)
  repeat (first | refine sp ?_ | (refine is_load ?_; refine ld ?_) | (refine is_store ?_; refine sr ?_) | (refine is_alloc ?_; refine al ?_) | (refine is_box ?_; refine bx ?_) | (refine isl_load ?_; refine ldl ?_) | (refine isl_store ?_; refine srl ?_) | (refine isl_alloc ?_; refine all' ?_) | (refine isl_box ?_; refine bxl ?_))
  unfold OwnE at ho2
  rw [List.length_reverse] at ho2
  refine go_pushG (l := entC e) (by decide) rfl rfl rfl rfl ho2 rfl (by simp [Value.oneCell']) (by omega) (by simp [maxLen]; omega) (by omega) (by omega) ?_
  intro v3 w3 ho3 hg3 hb3
  have hf3 := Fr.of_grown hg3
  have hlo3 : ∀ z, (Value.slice sv c.length cv).ownBlock = some z → w1.heap.size + 1 ≤ z := fun z hz => (World.ownsRow.lt ho2 z hz).1
  have hat3 := hat.fr hf3 (fun e => by have := hlo3 _ e; omega)
  have ha3 : ArP w3 lo p q B := ha2.fr hf3 (fun z hz e => by have := hlo3 _ e; have := ha.lt z hz; omega)
  have hF3 : Fr (fun z => z = p) w w3 := hf2.trans' hf3 fun z hz e => by have := hlo3 _ e; omega
  have ho4 : OwnE w3 (w1.heap.size + 1) v3 (e :: c).reverse := by
    rw [List.reverse_cons]; unfold OwnE; rw [List.flatMap_append, List.length_append, List.length_reverse]; simpa using ho3
  have hs3 := hg3.size
  repeat (first | refine sp ?_ | (refine is_load ?_; refine ld ?_) | (refine is_store ?_; refine sr ?_) | (refine is_alloc ?_; refine al ?_) | (refine is_box ?_; refine bx ?_) | (refine isl_load ?_; refine ldl ?_) | (refine isl_store ?_; refine srl ?_) | (refine isl_alloc ?_; refine all' ?_) | (refine isl_box ?_; refine bxl ?_))
  refine go_call rfl rfl (c_Below w3 lo p q B t e.1 ha3 (hB.inA hi) he ho hs) ?_
  rintro _ w4 ⟨rfl, B4, ha4, hB4, hf4⟩
  have hat4 := hat3.fr hf4 (by omega)
  have ho5 := ho4.fr' hf4 (fun z hz e => by have := (ho4.los hz).1; omega)
  have hs4 := hf4.size
  rw [hbel]
  unfold entV
  repeat (first | refine sp ?_ | (refine is_load ?_; refine ld ?_) | (refine is_store ?_; refine sr ?_) | (refine is_alloc ?_; refine al ?_) | (refine is_box ?_; refine bx ?_) | (refine isl_load ?_; refine ldl ?_) | (refine isl_store ?_; refine srl ?_) | (refine isl_alloc ?_; refine all' ?_) | (refine isl_box ?_; refine bxl ?_))
  refine go_stop (G := List (Int × Int) × List (Int × Int) × Value × AR × Nat) (a', e :: c, v3, B4, n + t.ht) rfl ⟨rfl, rfl, rfl, rfl, rfl, trivial⟩ ⟨by rw [hFa]; simp, fun z hz => ?_, by simp; omega, ?_, ?_, hB.trans hB4, ?_, ?_, by (repeat (first | assumption | (refine At.new' (by (first | omega | (simp; done) | (simp; omega))) _ _) | apply At.alloc | apply At.drewN | apply At.setRow | (apply At.setRow_neF; first | assumption | (apply Ne.symm; assumption) | omega) | (apply At.extF; assumption)))⟩ (by show a'.length < (a' ++ [e]).length; simp)
  · rcases List.mem_cons.1 hz with rfl | hz
    · exact hx
    · exact hc z hz
  · exact ho5.fr' (S := fun z => z = w1.heap.size) (by (repeat (first | exact Fr.refl _ _ | assumption | apply Fr.drewN | apply Fr.alloc | (apply Fr.transF; assumption) | (refine Fr.setRow ?_ _ (by first | exact Or.inr (by (first | omega | (simp; done) | (simp; omega))) | (exact Or.inl (by first | assumption | (simp; done)))))))) (fun z hz e => by have := (ho5.los hz).1; omega)
  · exact ha4.fr (S := fun z => z = w1.heap.size) (by (repeat (first | exact Fr.refl _ _ | assumption | apply Fr.drewN | apply Fr.alloc | (apply Fr.transF; assumption) | (refine Fr.setRow ?_ _ (by first | exact Or.inr (by (first | omega | (simp; done) | (simp; omega))) | (exact Or.inl (by first | assumption | (simp; done)))))))) (fun z hz e => by have := ha.lt z hz; omega)
  · exact hF3.trans' (S' := fun z => z = p ∨ z = w1.heap.size) (Fr.setRow (hf4.mono fun z e => Or.inl e) _ (Or.inl (Or.inr rfl))) (fun z hz e => by omega)
  · simp; omega

set_option maxHeartbeats 1000000 in
theorem c_Between (w : World) (hi : Nat) (lv : Value) (l : List (Int × Int)) (x y : Int) (hr : RdU w hi lv entC l) (hh : hi ≤ w.heap.size) (hlen : l.length ≤ 1000000) :
    Calls Try.prog 42 [lv, .int .i64 x, .int .i64 y].toArray w (Ret fun r w' => OwnE w' w.heap.size r (rng x y l) ∧ Ext w w') := by
  obtain ⟨sa, cap, rfl, hlc, _, _⟩ := id hr
  refine calls_go Try.func42 rfl Try.ntmps42 (Nat.le_of_ble_eq_true rfl) ?_
  repeat (first | refine sp ?_ | (refine is_load ?_; refine ld ?_) | (refine is_store ?_; refine sr ?_) | (refine is_alloc ?_; refine al ?_) | (refine is_box ?_; refine bx ?_) | (refine isl_load ?_; refine ldl ?_) | (refine isl_store ?_; refine srl ?_) | (refine isl_alloc ?_; refine all' ?_) | (refine isl_box ?_; refine bxl ?_))
  refine go_loop (G := Nat × Value) [7, 8] (fun ⟨k, v⟩ => [v, .int .i64 (k : Int)]) [(0, .slice sa l.length cap), (1, .int .i64 x), (2, .int .i64 y)]
    (fun ⟨k, v⟩ w' => k ≤ l.length ∧ OwnE w' w.heap.size v (rng x y (l.take k)) ∧ Ext w w') (fun g => l.length - g.1) (0, .slice none 0 0) rfl ⟨rfl, rfl, rfl, trivial⟩ ⟨by omega, Own.nil _ _ _ _, by (repeat (first | exact Fr.refl _ _ | assumption | apply Fr.drewN | apply Fr.alloc | (apply Fr.transF; assumption) | (refine Fr.setRow ?_ _ (by first | exact Or.inr (by (first | omega | (simp; done) | (simp; omega))) | (exact Or.inl (by first | assumption | (simp; done)))))))⟩ ?_
  rintro ⟨k, v⟩ w1 ⟨hk, ho, hx⟩
  obtain ⟨a, hae⟩ : ∃ a, rng x y (l.take k) = a := ⟨_, rfl⟩
  have hal : a.length ≤ k := by rw [← hae]; exact Nat.le_trans (List.length_filter_le _ _) (by simp; omega)
  rw [hae] at ho
  unfold OwnE at ho
  obtain ⟨sv, cv, rfl, _, _⟩ := ho.slice
  by_cases hlt : k < l.length
  · obtain ⟨b, o, e, hbl, hcell⟩ := (hr.ext hx).at (m := 2) (fun _ => rfl) (by omega) hlt
    subst e
    have e0 := hcell 0 (.int .i64 l[k].1) rfl
    have hs1 : rng x y (l.take (k + 1)) = a ++ if x ≤ l[k].1 ∧ l[k].1 ≤ y then [l[k]] else [] := by
      unfold rng at hae ⊢
      rw [List.take_succ_eq_append_getElem hlt, List.filter_append, hae]
      by_cases hc : x ≤ l[k].1 ∧ l[k].1 ≤ y <;> simp [hc, inR]
    generalize l[k] = z at *
    have hst : (∀ j u, (entC z)[j]? = some u → w1.cell? ((⟨b, o + k * 2, none⟩ : Addr).add j) = some u) := fun j u hj => by rw [addr_add]; exact hcell j u hj
    by_cases hc1 : x ≤ z.1
    rotate_left
    · rw [if_neg (by omega), List.append_nil] at hs1
      repeat (first | refine sp ?_ | (refine is_load ?_; refine ld ?_) | (refine is_store ?_; refine sr ?_) | (refine is_alloc ?_; refine al ?_) | (refine is_box ?_; refine bx ?_) | (refine isl_load ?_; refine ldl ?_) | (refine isl_store ?_; refine srl ?_) | (refine isl_alloc ?_; refine all' ?_) | (refine isl_box ?_; refine bxl ?_))
      exact go_stop (G := Nat × Value) (k + 1, _) rfl ⟨rfl, rfl, rfl, trivial⟩ ⟨hlt, by rw [hs1]; exact ho, hx⟩ (by show l.length - (k + 1) < l.length - k; omega)
    by_cases hc2 : z.1 ≤ y
    rotate_left
    · rw [if_neg (by omega), List.append_nil] at hs1
      repeat (first | refine sp ?_ | (refine is_load ?_; refine ld ?_) | (refine is_store ?_; refine sr ?_) | (refine is_alloc ?_; refine al ?_) | (refine is_box ?_; refine bx ?_) | (refine isl_load ?_; refine ldl ?_) | (refine isl_store ?_; refine srl ?_) | (refine isl_alloc ?_; refine all' ?_) | (refine isl_box ?_; refine bxl ?_))
      exact go_stop (G := Nat × Value) (k + 1, _) rfl ⟨rfl, rfl, rfl, trivial⟩ ⟨hlt, by rw [hs1]; exact ho, hx⟩ (by show l.length - (k + 1) < l.length - k; omega)
    rw [if_pos ⟨hc1, hc2⟩] at hs1
    repeat (first | refine sp ?_ | (refine is_load ?_; refine ld ?_) | (refine is_store ?_; refine sr ?_) | (refine is_alloc ?_; refine al ?_) | (refine is_box ?_; refine bx ?_) | (refine isl_load ?_; refine ldl ?_) | (refine isl_store ?_; refine srl ?_) | (refine isl_alloc ?_; refine all' ?_) | (refine isl_box ?_; refine bxl ?_))
    refine go_load (v := .agg (entC z).toArray) rfl rfl (ld_cells (m := 2) rfl (by decide) hst) ?_
    unfold entC
    repeat (first | refine sp ?_ | (refine is_load ?_; refine ld ?_) | (refine is_store ?_; refine sr ?_) | (refine is_alloc ?_; refine al ?_) | (refine is_box ?_; refine bx ?_) | (refine isl_load ?_; refine ldl ?_) | (refine isl_store ?_; refine srl ?_) | (refine isl_alloc ?_; refine all' ?_) | (refine isl_box ?_; refine bxl ?_))
    refine go_pushG (l := entC z) (by decide) rfl rfl rfl rfl ho rfl (by simp [Value.oneCell']) (by omega) (by simp [maxLen]; omega) (by omega) (by have := hx.size; omega) ?_
    intro v2 w2 ho2 hg2 _
    have hx2 : Ext w w2 := ext_grown hx (by omega) ho hg2
    have ho3 : OwnE w2 w.heap.size v2 (a ++ [z]) := by unfold OwnE; rw [List.flatMap_append, List.length_append]; simpa using ho2
    repeat (first | refine sp ?_ | (refine is_load ?_; refine ld ?_) | (refine is_store ?_; refine sr ?_) | (refine is_alloc ?_; refine al ?_) | (refine is_box ?_; refine bx ?_) | (refine isl_load ?_; refine ldl ?_) | (refine isl_store ?_; refine srl ?_) | (refine isl_alloc ?_; refine all' ?_) | (refine isl_box ?_; refine bxl ?_))
    exact go_stop (G := Nat × Value) (k + 1, _) rfl ⟨rfl, rfl, rfl, trivial⟩ ⟨hlt, by rw [hs1]; exact ho3, hx2⟩ (by show l.length - (k + 1) < l.length - k; omega)
  · have e : l.take k = l := List.take_of_length_le (by omega)
    rw [e] at hae
    rw [hae]
    repeat (first | refine sp ?_ | (refine is_load ?_; refine ld ?_) | (refine is_store ?_; refine sr ?_) | (refine is_alloc ?_; refine al ?_) | (refine is_box ?_; refine bx ?_) | (refine isl_load ?_; refine ldl ?_) | (refine isl_store ?_; refine srl ?_) | (refine isl_alloc ?_; refine all' ?_) | (refine isl_box ?_; refine bxl ?_))
    exact go_ret1 rfl rfl ⟨_, rfl, ho, hx⟩

set_option maxHeartbeats 1000000 in
theorem c_Head (w : World) (hi : Nat) (lv : Value) (l : List (Int × Int)) (m : Nat) (hr : RdU w hi lv entC l) (hh : hi ≤ w.heap.size) (hlen : l.length ≤ 1000000) (hm : m ≤ 1000000000) :
    Calls Try.prog 81 [lv, .int .i64 (m : Int)].toArray w (Ret fun r w' => OwnE w' w.heap.size r (l.take m) ∧ Ext w w') := by
  obtain ⟨sa, cap, rfl, hlc, _, _⟩ := id hr
  refine calls_go Try.func81 rfl Try.ntmps81 (Nat.le_of_ble_eq_true rfl) ?_
  repeat (first | refine sp ?_ | (refine is_load ?_; refine ld ?_) | (refine is_store ?_; refine sr ?_) | (refine is_alloc ?_; refine al ?_) | (refine is_box ?_; refine bx ?_) | (refine isl_load ?_; refine ldl ?_) | (refine isl_store ?_; refine srl ?_) | (refine isl_alloc ?_; refine all' ?_) | (refine isl_box ?_; refine bxl ?_))
  refine go_loop (G := Nat × Value) [5, 6] (fun ⟨k, v⟩ => [v, .int .i64 (k : Int)]) [(0, .slice sa l.length cap), (1, .int .i64 (m : Int))]
    (fun ⟨k, v⟩ w' => k ≤ l.length ∧ k ≤ m ∧ OwnE w' w.heap.size v (l.take k) ∧ Ext w w') (fun g => l.length - g.1) (0, .slice none 0 0) rfl ⟨rfl, rfl, trivial⟩ ⟨by omega, by omega, Own.nil _ _ _ _, by (repeat (first | exact Fr.refl _ _ | assumption | apply Fr.drewN | apply Fr.alloc | (apply Fr.transF; assumption) | (refine Fr.setRow ?_ _ (by first | exact Or.inr (by (first | omega | (simp; done) | (simp; omega))) | (exact Or.inl (by first | assumption | (simp; done)))))))⟩ ?_
  rintro ⟨k, v⟩ w1 ⟨hk, hkm, ho, hx⟩
  have hal : (l.take k).length = k := by simp; omega
  unfold OwnE at ho
  obtain ⟨sv, cv, rfl, _, _⟩ := ho.slice
  by_cases hlt : k < l.length
  rotate_left
  · have e : l.take k = l.take m := by rw [List.take_of_length_le (by omega), List.take_of_length_le (by omega)]
    rw [← e]
    repeat (first | refine sp ?_ | (refine is_load ?_; refine ld ?_) | (refine is_store ?_; refine sr ?_) | (refine is_alloc ?_; refine al ?_) | (refine is_box ?_; refine bx ?_) | (refine isl_load ?_; refine ldl ?_) | (refine isl_store ?_; refine srl ?_) | (refine isl_alloc ?_; refine all' ?_) | (refine isl_box ?_; refine bxl ?_))
    exact go_ret1 rfl rfl ⟨_, rfl, ho, hx⟩
  by_cases hlt2 : k < m
  rotate_left
  · have e : m = k := by omega
    rw [e]
    repeat (first | refine sp ?_ | (refine is_load ?_; refine ld ?_) | (refine is_store ?_; refine sr ?_) | (refine is_alloc ?_; refine al ?_) | (refine is_box ?_; refine bx ?_) | (refine isl_load ?_; refine ldl ?_) | (refine isl_store ?_; refine srl ?_) | (refine isl_alloc ?_; refine all' ?_) | (refine isl_box ?_; refine bxl ?_))
    exact go_ret1 rfl rfl ⟨_, rfl, ho, hx⟩
  obtain ⟨b, o, e, hbl, hcell⟩ := (hr.ext hx).at (m := 2) (fun _ => rfl) (by omega) hlt
  subst e
  have hs1 : l.take (k + 1) = l.take k ++ [l[k]] := List.take_succ_eq_append_getElem hlt
  generalize l[k] = z at *
  have hst : (∀ j u, (entC z)[j]? = some u → w1.cell? ((⟨b, o + k * 2, none⟩ : Addr).add j) = some u) := fun j u hj => by rw [addr_add]; exact hcell j u hj
  repeat (first | refine sp ?_ | (refine is_load ?_; refine ld ?_) | (refine is_store ?_; refine sr ?_) | (refine is_alloc ?_; refine al ?_) | (refine is_box ?_; refine bx ?_) | (refine isl_load ?_; refine ldl ?_) | (refine isl_store ?_; refine srl ?_) | (refine isl_alloc ?_; refine all' ?_) | (refine isl_box ?_; refine bxl ?_))
  refine go_load (v := .agg (entC z).toArray) rfl rfl (ld_cells (m := 2) rfl (by decide) hst) ?_
  unfold entC
  repeat (first | refine sp ?_ | (refine is_load ?_; refine ld ?_) | (refine is_store ?_; refine sr ?_) | (refine is_alloc ?_; refine al ?_) | (refine is_box ?_; refine bx ?_) | (refine isl_load ?_; refine ldl ?_) | (refine isl_store ?_; refine srl ?_) | (refine isl_alloc ?_; refine all' ?_) | (refine isl_box ?_; refine bxl ?_))
  refine go_pushG (l := entC z) (by decide) rfl rfl rfl rfl ho rfl (by simp [Value.oneCell']) (by omega) (by simp [maxLen]; omega) (by omega) (by have := hx.size; omega) ?_
  intro v2 w2 ho2 hg2 _
  have hx2 : Ext w w2 := ext_grown hx (by omega) ho hg2
  have ho3 : OwnE w2 w.heap.size v2 (l.take k ++ [z]) := by unfold OwnE; rw [List.flatMap_append, List.length_append]; simpa using ho2
  repeat (first | refine sp ?_ | (refine is_load ?_; refine ld ?_) | (refine is_store ?_; refine sr ?_) | (refine is_alloc ?_; refine al ?_) | (refine is_box ?_; refine bx ?_) | (refine isl_load ?_; refine ldl ?_) | (refine isl_store ?_; refine srl ?_) | (refine isl_alloc ?_; refine all' ?_) | (refine isl_box ?_; refine bxl ?_))
  exact go_stop (G := Nat × Value) (k + 1, _) rfl ⟨rfl, rfl, trivial⟩ ⟨hlt, hlt2, by rw [hs1]; exact ho3, hx2⟩ (by show l.length - (k + 1) < l.length - k; omega)

set_option maxHeartbeats 1000000 in
theorem c_reverse (w : World) (hi : Nat) (lv : Value) (l : List (Int × Int)) (hr : RdU w hi lv entC l) (hh : hi ≤ w.heap.size) (hlen : l.length ≤ 1000000) :
    Calls Try.prog 84 [lv].toArray w (Ret fun r w' => OwnE w' w.heap.size r l.reverse ∧ Ext w w') := by
  obtain ⟨sa, cap, rfl, hlc, _, _⟩ := id hr
  refine calls_go Try.func84 rfl Try.ntmps84 (Nat.le_of_ble_eq_true rfl) ?_
  repeat (first | refine sp ?_ | (refine is_load ?_; refine ld ?_) | (refine is_store ?_; refine sr ?_) | (refine is_alloc ?_; refine al ?_) | (refine is_box ?_; refine bx ?_) | (refine isl_load ?_; refine ldl ?_) | (refine isl_store ?_; refine srl ?_) | (refine isl_alloc ?_; refine all' ?_) | (refine isl_box ?_; refine bxl ?_))
  refine go_as 4 (u' := .int .i64 ((l.length : Int) - 1 - ((0 : Nat) : Int))) rfl (by congr 1; simp) ?_
  refine go_loop (G := Nat × Value) [3, 4] (fun ⟨k, v⟩ => [v, .int .i64 ((l.length : Int) - 1 - (k : Int))]) [(0, .slice sa l.length cap)]
    (fun ⟨k, v⟩ w' => k ≤ l.length ∧ OwnE w' w.heap.size v (l.reverse.take k) ∧ Ext w w') (fun g => l.length - g.1) (0, .slice none 0 0) rfl ⟨rfl, trivial⟩ ⟨by omega, Own.nil _ _ _ _, by (repeat (first | exact Fr.refl _ _ | assumption | apply Fr.drewN | apply Fr.alloc | (apply Fr.transF; assumption) | (refine Fr.setRow ?_ _ (by first | exact Or.inr (by (first | omega | (simp; done) | (simp; omega))) | (exact Or.inl (by first | assumption | (simp; done)))))))⟩ ?_
  rintro ⟨k, v⟩ w1 ⟨hk, ho, hx⟩
  have hal : (l.reverse.take k).length = k := by simp; omega
  unfold OwnE at ho
  obtain ⟨sv, cv, rfl, _, _⟩ := ho.slice
  by_cases hlt : k < l.length
  rotate_left
  · have e : l.reverse.take k = l.reverse := List.take_of_length_le (by simp; omega)
    rw [e] at ho ⊢
    repeat (first | refine sp ?_ | (refine is_load ?_; refine ld ?_) | (refine is_store ?_; refine sr ?_) | (refine is_alloc ?_; refine al ?_) | (refine is_box ?_; refine bx ?_) | (refine isl_load ?_; refine ldl ?_) | (refine isl_store ?_; refine srl ?_) | (refine isl_alloc ?_; refine all' ?_) | (refine isl_box ?_; refine bxl ?_))
    exact go_ret1 rfl rfl ⟨_, rfl, ho, hx⟩
  obtain ⟨j, hj⟩ : ∃ j, l.length - 1 - k = j := ⟨_, rfl⟩
  obtain ⟨b, o, e, hbl, hcell⟩ := (hr.ext hx).at (m := 2) (fun _ => rfl) (by omega) (show j < l.length by omega)
  subst e
  have hs1 : l.reverse.take (k + 1) = l.reverse.take k ++ [l[j]] := by
    rw [List.take_succ_eq_append_getElem (by simp; omega)]
    congr 2
    rw [List.getElem_reverse]
    congr 1
  generalize l[j] = z at *
  have hst : (∀ i u, (entC z)[i]? = some u → w1.cell? ((⟨b, o + j * 2, none⟩ : Addr).add i) = some u) := fun i u hj => by rw [addr_add]; exact hcell i u hj
  refine go_as 4 (u' := .int .i64 (j : Int)) rfl (by congr 1; omega) ?_
  repeat (first | refine sp ?_ | (refine is_load ?_; refine ld ?_) | (refine is_store ?_; refine sr ?_) | (refine is_alloc ?_; refine al ?_) | (refine is_box ?_; refine bx ?_) | (refine isl_load ?_; refine ldl ?_) | (refine isl_store ?_; refine srl ?_) | (refine isl_alloc ?_; refine all' ?_) | (refine isl_box ?_; refine bxl ?_))
  refine go_load (v := .agg (entC z).toArray) rfl rfl (ld_cells (m := 2) rfl (by decide) hst) ?_
  unfold entC
  repeat (first | refine sp ?_ | (refine is_load ?_; refine ld ?_) | (refine is_store ?_; refine sr ?_) | (refine is_alloc ?_; refine al ?_) | (refine is_box ?_; refine bx ?_) | (refine isl_load ?_; refine ldl ?_) | (refine isl_store ?_; refine srl ?_) | (refine isl_alloc ?_; refine all' ?_) | (refine isl_box ?_; refine bxl ?_))
  refine go_pushG (l := entC z) (by decide) rfl rfl rfl rfl ho rfl (by simp [Value.oneCell']) (by omega) (by simp [maxLen]; omega) (by omega) (by have := hx.size; omega) ?_
  intro v2 w2 ho2 hg2 _
  have hx2 : Ext w w2 := ext_grown hx (by omega) ho hg2
  have ho3 : OwnE w2 w.heap.size v2 (l.reverse.take k ++ [z]) := by unfold OwnE; rw [List.flatMap_append, List.length_append]; simpa using ho2
  repeat (first | refine sp ?_ | (refine is_load ?_; refine ld ?_) | (refine is_store ?_; refine sr ?_) | (refine is_alloc ?_; refine al ?_) | (refine is_box ?_; refine bx ?_) | (refine isl_load ?_; refine ldl ?_) | (refine isl_store ?_; refine srl ?_) | (refine isl_alloc ?_; refine all' ?_) | (refine isl_box ?_; refine bxl ?_))
  refine go_as 4 (u' := .int .i64 ((l.length : Int) - 1 - ((k + 1 : Nat) : Int))) rfl (by congr 1; omega) ?_
  exact go_stop (G := Nat × Value) (k + 1, _) rfl ⟨rfl, trivial⟩ ⟨hlt, by rw [hs1]; exact ho3, hx2⟩ (by show l.length - (k + 1) < l.length - k; omega)

end Go.Proofs.Yteghhalnpdikoaa

namespace Go.Vc
/-- The first rows. -/
theorem Own.pre {w : World} {lo : Nat} {e : TypeId} {m n k cap : Nat} {sa : Option Addr} {xs : List Value} (h : Own w lo e m (.slice sa n cap) n xs) (hk : k ≤ n) : Own w lo e m (.slice sa k cap) k (xs.take (k * m)) := by
  have hl : xs.length = n * m := h.1
  have hkm : k * m ≤ n * m := Nat.mul_le_mul_right _ hk
  refine ⟨by rw [List.length_take, hl]; omega, ?_⟩
  rcases h.2 with ⟨h1, h2⟩ | ⟨g, cap', cur, hv, hg, hh, hn', hc, hs, ht⟩
  · simp only [Value.slice.injEq] at h1
    obtain ⟨rfl, rfl, rfl⟩ := h1
    obtain rfl : k = 0 := by omega
    exact Or.inl ⟨rfl, rfl⟩
  · simp only [Value.slice.injEq] at hv
    obtain ⟨rfl, _, rfl⟩ := hv
    refine Or.inr ⟨g, cap, cur, rfl, hg, hh, by omega, hc, hs, ?_⟩
    rw [← ht, List.take_take, Nat.min_eq_left hkm]
end Go.Vc
namespace Go.Proofs.Yteghhalnpdikoaa
open Go.Vc

theorem OwnE.pre {w : World} {lo k cap : Nat} {sa : Option Addr} {l : List (Int × Int)} (h : OwnE w lo (.slice sa l.length cap) l) (hk : k ≤ l.length) : OwnE w lo (.slice sa k cap) (l.take k) := by
  have h1 := Own.pre h hk
  have e1 : (l.flatMap entC).take (k * 2) = (l.take k).flatMap entC := by
    have e2 : ((l.take k).flatMap entC).length = k * 2 := by rw [flatMap_len (m := 2) (fun _ => rfl), List.length_take, Nat.min_eq_left hk]
    conv => lhs; rw [← List.take_append_drop k l, List.flatMap_append, List.take_left' e2]
  unfold OwnE
  rw [List.length_take, Nat.min_eq_left hk, ← e1]
  exact h1

/-- What is asked for: the entries that are left. -/
def pgSel (l : List (Int × Int)) (q : Rq) (st : Option Int) : List (Int × Int) :=
  match st with
  | none => rng q.lo q.hi l
  | some k => if q.rev = true then rng q.lo (k - 1) l else rng (k + 1) q.hi l
structure Pg where
  ents : List (Int × Int)
  tok : List (BitVec 8)
  err : Nat
def pgFin (h : Nat) (q : Rq) (a : List (Int × Int)) : Pg :=
  if (a.length : Int) ≤ q.lim then ⟨a, [], 0⟩ else ⟨a.take q.lim.toNat, tokB h q (a.getD (q.lim.toNat - 1) (0, 0)).1, 0⟩
def pgOrd (q : Rq) (a : List (Int × Int)) : List (Int × Int) := if q.rev = true then a.reverse else a
def pgBad (h : Nat) (q : Rq) (z : Pz) : Prop := z.h ≠ h ∨ z.lo ≠ q.lo ∨ z.hi ≠ q.hi ∨ z.rev ≠ q.rev ∨ z.last < q.lo ∨ q.hi < z.last
instance (h : Nat) (q : Rq) (z : Pz) : Decidable (pgBad h q z) := by unfold pgBad; infer_instance
def pgP (l : List (Int × Int)) (h : Nat) (q : Rq) (tok : List (BitVec 8)) : Pg :=
  if q.lim < 1 ∨ 1000 < q.lim ∨ q.hi < q.lo then ⟨[], [], 1⟩
  else if tok.length = 0 then pgFin h q (pgOrd q (pgSel l q none))
  else if (parP tok).1 ≠ 0 then ⟨[], [], (parP tok).1⟩
  else if pgBad h q (parP tok).2 then ⟨[], [], 11⟩
  else pgFin h q (pgOrd q (pgSel l q (some (parP tok).2.last)))

/-- What a page is given as. -/
def PgR (w w' : World) (r : Value) (z : Pg) : Prop := ∃ v1 v2, r = .tuple #[v1, v2, .int .i64 (z.err : Int)] ∧ OwnE w' w.heap.size v1 z.ents ∧ OwnB w' w.heap.size v2 z.tok
theorem PgR.err (w w' : World) (e : Nat) : PgR w w' (.tuple #[.slice none 0 0, .slice none 0 0, .int .i64 (e : Int)]) ⟨[], [], e⟩ := ⟨_, _, rfl, Own.nil _ _ _ _, Own.nil _ _ _ _⟩

theorem take_rk {l : List (Int × Int)} (hs : Srt l) (x : Int) : l.take (rkN l x) = l.filter fun e => decide (e.1 < x) := by
  induction l with
  | nil => rfl
  | cons a l ih =>
    obtain ⟨h1, h2⟩ := List.pairwise_cons.1 hs
    unfold rkN at ih ⊢
    rw [cntF_cons]
    by_cases hc : a.1 < x
    · rw [if_pos (by simp [befP, hc]), Nat.add_comm 1, List.take_succ_cons, ih h2, List.filter_cons, if_pos (by simp [hc])]
    · rw [if_neg (by simp [befP, hc]), Nat.zero_add, cntF_none (fun e he => by have := h1 e he; simp [befP]; omega), List.take_zero, List.filter_eq_nil_iff.2]
      intro e he
      rcases List.mem_cons.1 he with rfl | he
      · simpa using hc
      · have := h1 e he; simp; omega
theorem rng_lt {x y k : Int} (hk : k ≤ y) (l : List (Int × Int)) : (rng x y l).filter (fun e => decide (e.1 < k)) = rng x (k - 1) l := by
  unfold rng
  rw [List.filter_filter]
  refine List.filter_congr fun z hz => ?_
  simp only [inR]
  by_cases hc : z.1 < k
  · simp [hc, show z.1 ≤ y by omega, show z.1 ≤ k - 1 by omega]
  · simp [hc, show ¬ z.1 ≤ k - 1 by omega]
theorem rng_gt {x y k : Int} (hk : x ≤ k) (l : List (Int × Int)) : (rng x y l).filter (fun e => decide (e.1 < x ∨ k < e.1)) = rng (k + 1) y l := by
  unfold rng
  rw [List.filter_filter]
  refine List.filter_congr fun z hz => ?_
  simp only [inR]
  by_cases hc : k < z.1
  · simp [hc, show x ≤ z.1 by omega, show k + 1 ≤ z.1 by omega]
  · by_cases hc2 : z.1 < x
    · simp [hc, show ¬ x ≤ z.1 by omega, show ¬ k + 1 ≤ z.1 by omega]
    · simp [hc, hc2, show ¬ k + 1 ≤ z.1 by omega]

theorem InE.rng {l : List (Int × Int)} (h : InE l) {x y : Int} : InE (rng x y l) := fun e he => h e (List.mem_filter.1 he).1
set_option maxHeartbeats 4000000 in
theorem c_refPage (w : World) (hi0 : Nat) (lv : Value) (l : List (Int × Int)) (h : Nat) (q : Rq) (tv : Value) (tok : List (BitVec 8)) (hr : RdU w hi0 lv entC l) (hh : hi0 ≤ w.heap.size) (hlen : l.length ≤ 100000) (hs : Srt l) (hin : InE l) (hh' : h < 18446744073709551616) (hq : q.ok) (ht : By w tv tok) (htl : tok.length ≤ 70368744177664) :
    Calls Try.prog 41 [lv, .int .u64 (h : Int), .agg ⟨q.cells⟩, tv].toArray w (Ret fun r w' => PgR w w' r (pgP l h q tok) ∧ Ext w w') := by
  obtain ⟨sl, cl, rfl, hlc, _, _⟩ := id hr
  obtain ⟨st, ct, rfl, htc, _⟩ := id ht
  have hP0 : (q.lim < 1 ∨ 1000 < q.lim ∨ q.hi < q.lo) → pgP l h q tok = ⟨[], [], 1⟩ := fun hc => by unfold pgP; rw [if_pos hc]
  have hP1 : ¬ (q.lim < 1 ∨ 1000 < q.lim ∨ q.hi < q.lo) → pgP l h q tok = if tok.length = 0 then pgFin h q (pgOrd q (pgSel l q none))
    else if (parP tok).1 ≠ 0 then ⟨[], [], (parP tok).1⟩
    else if pgBad h q (parP tok).2 then ⟨[], [], 11⟩
    else pgFin h q (pgOrd q (pgSel l q (some (parP tok).2.last))) := fun hc => by unfold pgP; rw [if_neg hc]
  obtain ⟨x, y, lim, rev⟩ := q
  simp only [Rq.cells] at hP0 hP1 hq ⊢
  generalize pgP l h ⟨x, y, lim, rev⟩ tok = Z at *
  refine calls_go Try.func41 rfl Try.ntmps41 (Nat.le_of_ble_eq_true rfl) ?_
  by_cases c1 : lim < 1
  · rw [hP0 (Or.inl c1)]
    repeat (first | refine sp ?_ | (refine is_load ?_; refine ld ?_) | (refine is_store ?_; refine sr ?_) | (refine is_alloc ?_; refine al ?_) | (refine is_box ?_; refine bx ?_) | (refine isl_load ?_; refine ldl ?_) | (refine isl_store ?_; refine srl ?_) | (refine isl_alloc ?_; refine all' ?_) | (refine isl_box ?_; refine bxl ?_))
    exact go_ret3 rfl rfl rfl rfl ⟨_, rfl, PgR.err _ _ 1, by (repeat (first | exact Fr.refl _ _ | assumption | apply Fr.drewN | apply Fr.alloc | (apply Fr.transF; assumption) | (refine Fr.setRow ?_ _ (by first | exact Or.inr (by (first | omega | (simp; done) | (simp; omega))) | (exact Or.inl (by first | assumption | (simp; done)))))))⟩
  by_cases c2 : 1000 < lim
  · rw [hP0 (Or.inr (Or.inl c2))]
    repeat (first | refine sp ?_ | (refine is_load ?_; refine ld ?_) | (refine is_store ?_; refine sr ?_) | (refine is_alloc ?_; refine al ?_) | (refine is_box ?_; refine bx ?_) | (refine isl_load ?_; refine ldl ?_) | (refine isl_store ?_; refine srl ?_) | (refine isl_alloc ?_; refine all' ?_) | (refine isl_box ?_; refine bxl ?_))
    exact go_ret3 rfl rfl rfl rfl ⟨_, rfl, PgR.err _ _ 1, by (repeat (first | exact Fr.refl _ _ | assumption | apply Fr.drewN | apply Fr.alloc | (apply Fr.transF; assumption) | (refine Fr.setRow ?_ _ (by first | exact Or.inr (by (first | omega | (simp; done) | (simp; omega))) | (exact Or.inl (by first | assumption | (simp; done)))))))⟩
  by_cases c3 : y < x
  · rw [hP0 (Or.inr (Or.inr c3))]
    repeat (first | refine sp ?_ | (refine is_load ?_; refine ld ?_) | (refine is_store ?_; refine sr ?_) | (refine is_alloc ?_; refine al ?_) | (refine is_box ?_; refine bx ?_) | (refine isl_load ?_; refine ldl ?_) | (refine isl_store ?_; refine srl ?_) | (refine isl_alloc ?_; refine all' ?_) | (refine isl_box ?_; refine bxl ?_))
    exact go_ret3 rfl rfl rfl rfl ⟨_, rfl, PgR.err _ _ 1, by (repeat (first | exact Fr.refl _ _ | assumption | apply Fr.drewN | apply Fr.alloc | (apply Fr.transF; assumption) | (refine Fr.setRow ?_ _ (by first | exact Or.inr (by (first | omega | (simp; done) | (simp; omega))) | (exact Or.inl (by first | assumption | (simp; done)))))))⟩
  replace hP1 := hP1 (by omega)
  clear hP0
  obtain ⟨m, rfl⟩ : ∃ m : Nat, lim = m := ⟨lim.toNat, by omega⟩
  repeat (first | refine sp ?_ | (refine is_load ?_; refine ld ?_) | (refine is_store ?_; refine sr ?_) | (refine is_alloc ?_; refine al ?_) | (refine is_box ?_; refine bx ?_) | (refine isl_load ?_; refine ldl ?_) | (refine isl_store ?_; refine srl ?_) | (refine isl_alloc ?_; refine all' ?_) | (refine isl_box ?_; refine bxl ?_))
  refine go_name (F := fun w1 => At w1 w.heap.size [.int .i64 x, .int .i64 y, .int .i64 (m : Int), .bool rev] 52 ∧ Ext w w1) ⟨by (repeat (first | assumption | (refine At.new' (by (first | omega | (simp; done) | (simp; omega))) _ _) | apply At.alloc | apply At.drewN | apply At.setRow | (apply At.setRow_neF; first | assumption | (apply Ne.symm; assumption) | omega) | (apply At.extF; assumption))), by (repeat (first | exact Fr.refl _ _ | assumption | apply Fr.drewN | apply Fr.alloc | (apply Fr.transF; assumption) | (refine Fr.setRow ?_ _ (by first | exact Or.inr (by (first | omega | (simp; done) | (simp; omega))) | (exact Or.inl (by first | assumption | (simp; done)))))))⟩ ?_
  rintro w1 ⟨hb1, hx1⟩
  refine go_call rfl rfl (c_Between w1 hi0 _ l x y (hr.ext hx1) (by have := hx1.size; omega) (by omega)) ?_
  rintro v2 w2 ⟨ho2, hx2⟩
  have hb2 := hb1.ext hx2
  have hx02 := hx1.trans hx2
  have hbl := hb1.lt
  have hs2 := hx1.size
  replace ho2 := OwnE.mono ho2 hs2
  obtain ⟨s2, k2, rfl, _, _⟩ := Own.slice ho2
  have hl2 := rng_len x y l
  repeat (first | refine sp ?_ | (refine is_load ?_; refine ld ?_) | (refine is_store ?_; refine sr ?_) | (refine is_alloc ?_; refine al ?_) | (refine is_box ?_; refine bx ?_) | (refine isl_load ?_; refine ldl ?_) | (refine isl_store ?_; refine srl ?_) | (refine isl_alloc ?_; refine all' ?_) | (refine isl_box ?_; refine bxl ?_))
  refine go_cut (G := Value × List (Int × Int)) [11] (fun ⟨v, _⟩ => [v]) [(1, .int .u64 (h : Int)), (6, ptr w.heap.size), (8, .slice none 0 0), (9, .slice none 0 0), (10, .int .i64 0)]
    (fun ⟨v, a⟩ w' => OwnE w' w.heap.size v a ∧ a.length ≤ 100000 ∧ Z = pgFin h ⟨x, y, m, rev⟩ (pgOrd ⟨x, y, m, rev⟩ a) ∧ InE a ∧ At w' w.heap.size [.int .i64 x, .int .i64 y, .int .i64 (m : Int), .bool rev] 52 ∧ Ext w w') ?_ ?_
  · by_cases c4 : tok.length = 0
    · rw [if_pos c4] at hP1
      repeat (first | refine sp ?_ | (refine is_load ?_; refine ld ?_) | (refine is_store ?_; refine sr ?_) | (refine is_alloc ?_; refine al ?_) | (refine is_box ?_; refine bx ?_) | (refine isl_load ?_; refine ldl ?_) | (refine isl_store ?_; refine srl ?_) | (refine isl_alloc ?_; refine all' ?_) | (refine isl_box ?_; refine bxl ?_))
      exact go_stop (G := Value × List (Int × Int)) (_, rng x y l) rfl ⟨rfl, rfl, rfl, rfl, rfl, trivial⟩ ⟨ho2, by omega, hP1, InE.rng hin, hb2, hx02⟩ trivial
    rw [if_neg c4] at hP1
    repeat (first | refine sp ?_ | (refine is_load ?_; refine ld ?_) | (refine is_store ?_; refine sr ?_) | (refine is_alloc ?_; refine al ?_) | (refine is_box ?_; refine bx ?_) | (refine isl_load ?_; refine ldl ?_) | (refine isl_store ?_; refine srl ?_) | (refine isl_alloc ?_; refine all' ?_) | (refine isl_box ?_; refine bxl ?_))
    refine go_call rfl rfl (c_refParse _ tok w2 htl (ht.ext hx02)) ?_
    rintro _ w3 ⟨rfl, hx3⟩
    have hs3 := hx3.size
    have hs2' := hx2.size
    have hb3 := hb2.ext hx3
    have hx03 := hx02.trans hx3
    have ho3 := Own.ext ho2 hx3
    generalize parP tok = z at *
    obtain ⟨er, h2, x2, y2, last, rev2⟩ := z
    rw [show parV (er, ⟨h2, x2, y2, last, rev2⟩) = .tuple #[.int .u64 (h2 : Int), .agg ⟨[.int .i64 x2, .int .i64 y2, .int .i64 0, .bool rev2]⟩, .int .i64 last, .int .i64 (er : Int)] from rfl]
    simp only at hP1
    by_cases c5 : er = 0
    rotate_left
    · rw [if_pos c5] at hP1
      rw [hP1]
      repeat (first | refine sp ?_ | (refine is_load ?_; refine ld ?_) | (refine is_store ?_; refine sr ?_) | (refine is_alloc ?_; refine al ?_) | (refine is_box ?_; refine bx ?_) | (refine isl_load ?_; refine ldl ?_) | (refine isl_store ?_; refine srl ?_) | (refine isl_alloc ?_; refine all' ?_) | (refine isl_box ?_; refine bxl ?_))
      exact go_ret3 rfl rfl rfl rfl ⟨_, rfl, PgR.err _ _ er, by (repeat (first | exact Fr.refl _ _ | assumption | apply Fr.drewN | apply Fr.alloc | (apply Fr.transF; assumption) | (refine Fr.setRow ?_ _ (by first | exact Or.inr (by (first | omega | (simp; done) | (simp; omega))) | (exact Or.inl (by first | assumption | (simp; done)))))))⟩
    rw [if_neg (by omega)] at hP1
    subst c5
    have hbad : pgBad h ⟨x, y, m, rev⟩ ⟨h2, x2, y2, last, rev2⟩ → Z = ⟨[], [], 11⟩ := fun hb => by rw [hP1, if_pos hb]
    have hgood : ¬ pgBad h ⟨x, y, m, rev⟩ ⟨h2, x2, y2, last, rev2⟩ → Z = _ := fun hb => by rw [hP1, if_neg hb]
    clear hP1
    unfold pgBad at hbad hgood
    simp only at hbad hgood
    by_cases d1 : h2 = h
    rotate_left
    · skip
      rw [hbad (by first | (left; omega) | (right; left; omega) | (right; right; left; omega) | (right; right; right; left; simp; done) | (right; right; right; right; left; omega) | (right; right; right; right; right; omega))]
      repeat (first | refine sp ?_ | (refine is_load ?_; refine ld ?_) | (refine is_store ?_; refine sr ?_) | (refine is_alloc ?_; refine al ?_) | (refine is_box ?_; refine bx ?_) | (refine isl_load ?_; refine ldl ?_) | (refine isl_store ?_; refine srl ?_) | (refine isl_alloc ?_; refine all' ?_) | (refine isl_box ?_; refine bxl ?_))
      exact go_ret3 rfl rfl rfl rfl ⟨_, rfl, PgR.err _ _ 11, by (repeat (first | exact Fr.refl _ _ | assumption | apply Fr.drewN | apply Fr.alloc | (apply Fr.transF; assumption) | (refine Fr.setRow ?_ _ (by first | exact Or.inr (by (first | omega | (simp; done) | (simp; omega))) | (exact Or.inl (by first | assumption | (simp; done)))))))⟩
    by_cases d2 : x2 = x
    rotate_left
    · skip
      rw [hbad (by first | (left; omega) | (right; left; omega) | (right; right; left; omega) | (right; right; right; left; simp; done) | (right; right; right; right; left; omega) | (right; right; right; right; right; omega))]
      repeat (first | refine sp ?_ | (refine is_load ?_; refine ld ?_) | (refine is_store ?_; refine sr ?_) | (refine is_alloc ?_; refine al ?_) | (refine is_box ?_; refine bx ?_) | (refine isl_load ?_; refine ldl ?_) | (refine isl_store ?_; refine srl ?_) | (refine isl_alloc ?_; refine all' ?_) | (refine isl_box ?_; refine bxl ?_))
      exact go_ret3 rfl rfl rfl rfl ⟨_, rfl, PgR.err _ _ 11, by (repeat (first | exact Fr.refl _ _ | assumption | apply Fr.drewN | apply Fr.alloc | (apply Fr.transF; assumption) | (refine Fr.setRow ?_ _ (by first | exact Or.inr (by (first | omega | (simp; done) | (simp; omega))) | (exact Or.inl (by first | assumption | (simp; done)))))))⟩
    by_cases d3 : y2 = y
    rotate_left
    · skip
      rw [hbad (by first | (left; omega) | (right; left; omega) | (right; right; left; omega) | (right; right; right; left; simp; done) | (right; right; right; right; left; omega) | (right; right; right; right; right; omega))]
      repeat (first | refine sp ?_ | (refine is_load ?_; refine ld ?_) | (refine is_store ?_; refine sr ?_) | (refine is_alloc ?_; refine al ?_) | (refine is_box ?_; refine bx ?_) | (refine isl_load ?_; refine ldl ?_) | (refine isl_store ?_; refine srl ?_) | (refine isl_alloc ?_; refine all' ?_) | (refine isl_box ?_; refine bxl ?_))
      exact go_ret3 rfl rfl rfl rfl ⟨_, rfl, PgR.err _ _ 11, by (repeat (first | exact Fr.refl _ _ | assumption | apply Fr.drewN | apply Fr.alloc | (apply Fr.transF; assumption) | (refine Fr.setRow ?_ _ (by first | exact Or.inr (by (first | omega | (simp; done) | (simp; omega))) | (exact Or.inl (by first | assumption | (simp; done)))))))⟩
    subst d1 d2 d3
    have hl3 : (rng x2 y2 l).length ≤ 1000000 := by omega
    have hsr : Srt (rng x2 y2 l) := List.Pairwise.filter _ hs
    cases rev <;> cases rev2
    · by_cases d5 : last < x2
      · skip
        rw [hbad (by first | (left; omega) | (right; left; omega) | (right; right; left; omega) | (right; right; right; left; simp; done) | (right; right; right; right; left; omega) | (right; right; right; right; right; omega))]
        repeat (first | refine sp ?_ | (refine is_load ?_; refine ld ?_) | (refine is_store ?_; refine sr ?_) | (refine is_alloc ?_; refine al ?_) | (refine is_box ?_; refine bx ?_) | (refine isl_load ?_; refine ldl ?_) | (refine isl_store ?_; refine srl ?_) | (refine isl_alloc ?_; refine all' ?_) | (refine isl_box ?_; refine bxl ?_))
        exact go_ret3 rfl rfl rfl rfl ⟨_, rfl, PgR.err _ _ 11, by (repeat (first | exact Fr.refl _ _ | assumption | apply Fr.drewN | apply Fr.alloc | (apply Fr.transF; assumption) | (refine Fr.setRow ?_ _ (by first | exact Or.inr (by (first | omega | (simp; done) | (simp; omega))) | (exact Or.inl (by first | assumption | (simp; done)))))))⟩
      by_cases d6 : y2 < last
      · skip
        rw [hbad (by first | (left; omega) | (right; left; omega) | (right; right; left; omega) | (right; right; right; left; simp; done) | (right; right; right; right; left; omega) | (right; right; right; right; right; omega))]
        repeat (first | refine sp ?_ | (refine is_load ?_; refine ld ?_) | (refine is_store ?_; refine sr ?_) | (refine is_alloc ?_; refine al ?_) | (refine is_box ?_; refine bx ?_) | (refine isl_load ?_; refine ldl ?_) | (refine isl_store ?_; refine srl ?_) | (refine isl_alloc ?_; refine all' ?_) | (refine isl_box ?_; refine bxl ?_))
        exact go_ret3 rfl rfl rfl rfl ⟨_, rfl, PgR.err _ _ 11, by (repeat (first | exact Fr.refl _ _ | assumption | apply Fr.drewN | apply Fr.alloc | (apply Fr.transF; assumption) | (refine Fr.setRow ?_ _ (by first | exact Or.inr (by (first | omega | (simp; done) | (simp; omega))) | (exact Or.inl (by first | assumption | (simp; done)))))))⟩
      replace hgood := hgood (by rintro (e | e | e | e | e | e) <;> first | exact e rfl | omega)
      clear hbad
      repeat (first | refine sp ?_ | (refine is_load ?_; refine ld ?_) | (refine is_store ?_; refine sr ?_) | (refine is_alloc ?_; refine al ?_) | (refine is_box ?_; refine bx ?_) | (refine isl_load ?_; refine ldl ?_) | (refine isl_store ?_; refine srl ?_) | (refine isl_alloc ?_; refine all' ?_) | (refine isl_box ?_; refine bxl ?_))
      refine go_call rfl rfl (c_Outside _ _ _ (rng x2 y2 l) x2 last ((Own.rd ho3 rfl).up.ext (by (repeat (first | exact Fr.refl _ _ | assumption | apply Fr.drewN | apply Fr.alloc | (apply Fr.transF; assumption) | (refine Fr.setRow ?_ _ (by first | exact Or.inr (by (first | omega | (simp; done) | (simp; omega))) | (exact Or.inl (by first | assumption | (simp; done))))))))) (by simp) hl3) ?_
      rintro v4 w4 ⟨ho4, hx4⟩
      have hx4' := hx03.trans (Fr.trans (by (repeat (first | exact Fr.refl _ _ | assumption | apply Fr.drewN | apply Fr.alloc | (apply Fr.transF; assumption) | (refine Fr.setRow ?_ _ (by first | exact Or.inr (by (first | omega | (simp; done) | (simp; omega))) | (exact Or.inl (by first | assumption | (simp; done)))))))) hx4)
      rw [rng_gt (by omega)] at ho4
      have hl4 := rng_len (last + 1) y2 l
      repeat (first | refine sp ?_ | (refine is_load ?_; refine ld ?_) | (refine is_store ?_; refine sr ?_) | (refine is_alloc ?_; refine al ?_) | (refine is_box ?_; refine bx ?_) | (refine isl_load ?_; refine ldl ?_) | (refine isl_store ?_; refine srl ?_) | (refine isl_alloc ?_; refine all' ?_) | (refine isl_box ?_; refine bxl ?_))
      exact go_stop (G := Value × List (Int × Int)) (v4, rng (last + 1) y2 l) rfl ⟨rfl, rfl, rfl, rfl, rfl, trivial⟩ ⟨OwnE.mono ho4 (by simp; omega), by omega, hgood, InE.rng hin, hb3.ext (Fr.trans (by (repeat (first | exact Fr.refl _ _ | assumption | apply Fr.drewN | apply Fr.alloc | (apply Fr.transF; assumption) | (refine Fr.setRow ?_ _ (by first | exact Or.inr (by (first | omega | (simp; done) | (simp; omega))) | (exact Or.inl (by first | assumption | (simp; done)))))))) hx4), hx4'⟩ trivial
    · skip
      rw [hbad (by first | (left; omega) | (right; left; omega) | (right; right; left; omega) | (right; right; right; left; simp; done) | (right; right; right; right; left; omega) | (right; right; right; right; right; omega))]
      repeat (first | refine sp ?_ | (refine is_load ?_; refine ld ?_) | (refine is_store ?_; refine sr ?_) | (refine is_alloc ?_; refine al ?_) | (refine is_box ?_; refine bx ?_) | (refine isl_load ?_; refine ldl ?_) | (refine isl_store ?_; refine srl ?_) | (refine isl_alloc ?_; refine all' ?_) | (refine isl_box ?_; refine bxl ?_))
      exact go_ret3 rfl rfl rfl rfl ⟨_, rfl, PgR.err _ _ 11, by (repeat (first | exact Fr.refl _ _ | assumption | apply Fr.drewN | apply Fr.alloc | (apply Fr.transF; assumption) | (refine Fr.setRow ?_ _ (by first | exact Or.inr (by (first | omega | (simp; done) | (simp; omega))) | (exact Or.inl (by first | assumption | (simp; done)))))))⟩
    · skip
      rw [hbad (by first | (left; omega) | (right; left; omega) | (right; right; left; omega) | (right; right; right; left; simp; done) | (right; right; right; right; left; omega) | (right; right; right; right; right; omega))]
      repeat (first | refine sp ?_ | (refine is_load ?_; refine ld ?_) | (refine is_store ?_; refine sr ?_) | (refine is_alloc ?_; refine al ?_) | (refine is_box ?_; refine bx ?_) | (refine isl_load ?_; refine ldl ?_) | (refine isl_store ?_; refine srl ?_) | (refine isl_alloc ?_; refine all' ?_) | (refine isl_box ?_; refine bxl ?_))
      exact go_ret3 rfl rfl rfl rfl ⟨_, rfl, PgR.err _ _ 11, by (repeat (first | exact Fr.refl _ _ | assumption | apply Fr.drewN | apply Fr.alloc | (apply Fr.transF; assumption) | (refine Fr.setRow ?_ _ (by first | exact Or.inr (by (first | omega | (simp; done) | (simp; omega))) | (exact Or.inl (by first | assumption | (simp; done)))))))⟩
    · by_cases d5 : last < x2
      · skip
        rw [hbad (by first | (left; omega) | (right; left; omega) | (right; right; left; omega) | (right; right; right; left; simp; done) | (right; right; right; right; left; omega) | (right; right; right; right; right; omega))]
        repeat (first | refine sp ?_ | (refine is_load ?_; refine ld ?_) | (refine is_store ?_; refine sr ?_) | (refine is_alloc ?_; refine al ?_) | (refine is_box ?_; refine bx ?_) | (refine isl_load ?_; refine ldl ?_) | (refine isl_store ?_; refine srl ?_) | (refine isl_alloc ?_; refine all' ?_) | (refine isl_box ?_; refine bxl ?_))
        exact go_ret3 rfl rfl rfl rfl ⟨_, rfl, PgR.err _ _ 11, by (repeat (first | exact Fr.refl _ _ | assumption | apply Fr.drewN | apply Fr.alloc | (apply Fr.transF; assumption) | (refine Fr.setRow ?_ _ (by first | exact Or.inr (by (first | omega | (simp; done) | (simp; omega))) | (exact Or.inl (by first | assumption | (simp; done)))))))⟩
      by_cases d6 : y2 < last
      · skip
        rw [hbad (by first | (left; omega) | (right; left; omega) | (right; right; left; omega) | (right; right; right; left; simp; done) | (right; right; right; right; left; omega) | (right; right; right; right; right; omega))]
        repeat (first | refine sp ?_ | (refine is_load ?_; refine ld ?_) | (refine is_store ?_; refine sr ?_) | (refine is_alloc ?_; refine al ?_) | (refine is_box ?_; refine bx ?_) | (refine isl_load ?_; refine ldl ?_) | (refine isl_store ?_; refine srl ?_) | (refine isl_alloc ?_; refine all' ?_) | (refine isl_box ?_; refine bxl ?_))
        exact go_ret3 rfl rfl rfl rfl ⟨_, rfl, PgR.err _ _ 11, by (repeat (first | exact Fr.refl _ _ | assumption | apply Fr.drewN | apply Fr.alloc | (apply Fr.transF; assumption) | (refine Fr.setRow ?_ _ (by first | exact Or.inr (by (first | omega | (simp; done) | (simp; omega))) | (exact Or.inl (by first | assumption | (simp; done)))))))⟩
      replace hgood := hgood (by rintro (e | e | e | e | e | e) <;> first | exact e rfl | omega)
      clear hbad
      have hrk := cntF_le (befP false last) (rng x2 y2 l)
      repeat (first | refine sp ?_ | (refine is_load ?_; refine ld ?_) | (refine is_store ?_; refine sr ?_) | (refine is_alloc ?_; refine al ?_) | (refine is_box ?_; refine bx ?_) | (refine isl_load ?_; refine ldl ?_) | (refine isl_store ?_; refine srl ?_) | (refine isl_alloc ?_; refine all' ?_) | (refine isl_box ?_; refine bxl ?_))
      refine go_call rfl rfl (c_refRank _ _ _ (rng x2 y2 l) last ((Own.rd ho3 rfl).up.ext (by (repeat (first | exact Fr.refl _ _ | assumption | apply Fr.drewN | apply Fr.alloc | (apply Fr.transF; assumption) | (refine Fr.setRow ?_ _ (by first | exact Or.inr (by (first | omega | (simp; done) | (simp; omega))) | (exact Or.inl (by first | assumption | (simp; done))))))))) hl3) ?_
      rintro _ w4 ⟨rfl, rfl⟩
      repeat (first | refine sp ?_ | (refine is_load ?_; refine ld ?_) | (refine is_store ?_; refine sr ?_) | (refine is_alloc ?_; refine al ?_) | (refine is_box ?_; refine bx ?_) | (refine isl_load ?_; refine ldl ?_) | (refine isl_store ?_; refine srl ?_) | (refine isl_alloc ?_; refine all' ?_) | (refine isl_box ?_; refine bxl ?_))
      refine go_call rfl rfl (c_Head _ _ _ (rng x2 y2 l) (rkN (rng x2 y2 l) last) ((Own.rd ho3 rfl).up.ext (by (repeat (first | exact Fr.refl _ _ | assumption | apply Fr.drewN | apply Fr.alloc | (apply Fr.transF; assumption) | (refine Fr.setRow ?_ _ (by first | exact Or.inr (by (first | omega | (simp; done) | (simp; omega))) | (exact Or.inl (by first | assumption | (simp; done))))))))) (by simp) hl3 (by unfold rkN; omega)) ?_
      rintro v4 w4 ⟨ho4, hx4⟩
      have hx4' := hx03.trans (Fr.trans (by (repeat (first | exact Fr.refl _ _ | assumption | apply Fr.drewN | apply Fr.alloc | (apply Fr.transF; assumption) | (refine Fr.setRow ?_ _ (by first | exact Or.inr (by (first | omega | (simp; done) | (simp; omega))) | (exact Or.inl (by first | assumption | (simp; done)))))))) hx4)
      rw [take_rk hsr, rng_lt (by omega)] at ho4
      have hl4 := rng_len x2 (last - 1) l
      repeat (first | refine sp ?_ | (refine is_load ?_; refine ld ?_) | (refine is_store ?_; refine sr ?_) | (refine is_alloc ?_; refine al ?_) | (refine is_box ?_; refine bx ?_) | (refine isl_load ?_; refine ldl ?_) | (refine isl_store ?_; refine srl ?_) | (refine isl_alloc ?_; refine all' ?_) | (refine isl_box ?_; refine bxl ?_))
      exact go_stop (G := Value × List (Int × Int)) (v4, rng x2 (last - 1) l) rfl ⟨rfl, rfl, rfl, rfl, rfl, trivial⟩ ⟨OwnE.mono ho4 (by simp; omega), by omega, hgood, InE.rng hin, hb3.ext (Fr.trans (by (repeat (first | exact Fr.refl _ _ | assumption | apply Fr.drewN | apply Fr.alloc | (apply Fr.transF; assumption) | (refine Fr.setRow ?_ _ (by first | exact Or.inr (by (first | omega | (simp; done) | (simp; omega))) | (exact Or.inl (by first | assumption | (simp; done)))))))) hx4), hx4'⟩ trivial
  rintro ⟨v, a⟩ w5 ⟨ho5, hal, hZ, hia, hb5, hx5⟩
  obtain ⟨s5, k5, rfl, _, _⟩ := Own.slice ho5
  have hs5 := hx5.size
  have hl5 := hb5.lt
  clear hP1
  repeat (first | refine sp ?_ | (refine is_load ?_; refine ld ?_) | (refine is_store ?_; refine sr ?_) | (refine is_alloc ?_; refine al ?_) | (refine is_box ?_; refine bx ?_) | (refine isl_load ?_; refine ldl ?_) | (refine isl_store ?_; refine srl ?_) | (refine isl_alloc ?_; refine all' ?_) | (refine isl_box ?_; refine bxl ?_))
  refine go_cut (G := Value × List (Int × Int)) [11] (fun ⟨v, _⟩ => [v]) [(1, .int .u64 (h : Int)), (6, ptr w.heap.size), (8, .slice none 0 0), (9, .slice none 0 0), (10, .int .i64 0)]
    (fun ⟨v, a⟩ w' => OwnE w' w.heap.size v a ∧ a.length ≤ 100000 ∧ Z = pgFin h ⟨x, y, m, rev⟩ a ∧ InE a ∧ At w' w.heap.size [.int .i64 x, .int .i64 y, .int .i64 (m : Int), .bool rev] 52 ∧ Ext w w') ?_ ?_
  · cases rev
    · repeat (first | refine sp ?_ | (refine is_load ?_; refine ld ?_) | (refine is_store ?_; refine sr ?_) | (refine is_alloc ?_; refine al ?_) | (refine is_box ?_; refine bx ?_) | (refine isl_load ?_; refine ldl ?_) | (refine isl_store ?_; refine srl ?_) | (refine isl_alloc ?_; refine all' ?_) | (refine isl_box ?_; refine bxl ?_))
      exact go_stop (G := Value × List (Int × Int)) (_, a) rfl ⟨rfl, rfl, rfl, rfl, rfl, trivial⟩ ⟨ho5, hal, hZ, hia, hb5, hx5⟩ trivial
    · repeat (first | refine sp ?_ | (refine is_load ?_; refine ld ?_) | (refine is_store ?_; refine sr ?_) | (refine is_alloc ?_; refine al ?_) | (refine is_box ?_; refine bx ?_) | (refine isl_load ?_; refine ldl ?_) | (refine isl_store ?_; refine srl ?_) | (refine isl_alloc ?_; refine all' ?_) | (refine isl_box ?_; refine bxl ?_))
      refine go_call rfl rfl (c_reverse w5 _ _ a (Own.rd ho5 rfl).up (by omega) (by omega)) ?_
      rintro v6 w6 ⟨ho6, hx6⟩
      repeat (first | refine sp ?_ | (refine is_load ?_; refine ld ?_) | (refine is_store ?_; refine sr ?_) | (refine is_alloc ?_; refine al ?_) | (refine is_box ?_; refine bx ?_) | (refine isl_load ?_; refine ldl ?_) | (refine isl_store ?_; refine srl ?_) | (refine isl_alloc ?_; refine all' ?_) | (refine isl_box ?_; refine bxl ?_))
      exact go_stop (G := Value × List (Int × Int)) (v6, a.reverse) rfl ⟨rfl, rfl, rfl, rfl, rfl, trivial⟩ ⟨OwnE.mono ho6 hs5, by simpa using hal, hZ, fun e he => hia e (List.mem_reverse.1 he), hb5.ext hx6, hx5.trans hx6⟩ trivial
  clear ho5 hal hZ hia hb5 hx5 hs5 hl5
  rintro ⟨v, a⟩ w5 ⟨ho5, hal, hZ, hia, hb5, hx5⟩
  obtain ⟨s5, k5, rfl, _, _⟩ := Own.slice ho5
  have hs5 := hx5.size
  have hl5 := hb5.lt
  repeat (first | refine sp ?_ | (refine is_load ?_; refine ld ?_) | (refine is_store ?_; refine sr ?_) | (refine is_alloc ?_; refine al ?_) | (refine is_box ?_; refine bx ?_) | (refine isl_load ?_; refine ldl ?_) | (refine isl_store ?_; refine srl ?_) | (refine isl_alloc ?_; refine all' ?_) | (refine isl_box ?_; refine bxl ?_))
  refine go_call rfl rfl (c_Head w5 _ _ a m (Own.rd ho5 rfl).up (by omega) (by omega) (by omega)) ?_
  rintro v6 w6 ⟨ho6, hx6⟩
  have hb6 := hb5.ext hx6
  have hx06 := hx5.trans hx6
  replace ho6 := OwnE.mono ho6 hs5
  obtain ⟨s6, k6, rfl, _, _⟩ := Own.slice ho6
  by_cases hc : a.length ≤ m
  · have e : a.take m = a := List.take_of_length_le hc
    rw [e] at ho6 ⊢
    repeat (first | refine sp ?_ | (refine is_load ?_; refine ld ?_) | (refine is_store ?_; refine sr ?_) | (refine is_alloc ?_; refine al ?_) | (refine is_box ?_; refine bx ?_) | (refine isl_load ?_; refine ldl ?_) | (refine isl_store ?_; refine srl ?_) | (refine isl_alloc ?_; refine all' ?_) | (refine isl_box ?_; refine bxl ?_))
    refine go_ret3 rfl rfl rfl rfl ⟨_, rfl, ?_, hx06⟩
    rw [hZ]
    unfold pgFin
    rw [if_pos (by simp only; omega)]
    exact ⟨_, _, rfl, ho6, Own.nil _ _ _ _⟩
  · have e : (a.take m).length = m := by rw [List.length_take]; omega
    obtain ⟨b, o, es, hbl, hcell⟩ := (Own.rd ho6 rfl).up.at (m := 2) (fun _ => rfl) (by omega) (show m - 1 < (a.take m).length by omega)
    subst es
    have ho6' : OwnE w6 w.heap.size (.slice (some ⟨b, o, none⟩) m k6) (a.take m) := by simpa only [e] using ho6
    rw [e]
    have e2 : (a.take m)[m - 1]'(by omega) = a.getD (m - 1) (0, 0) := by rw [List.getElem_take, List.getD_eq_getElem?_getD, List.getElem?_eq_getElem (by omega)]; rfl
    rw [e2] at hcell
    obtain ⟨last, hlast⟩ : ∃ k, (a.getD (m - 1) (0, 0)).1 = k := ⟨_, rfl⟩
    have hlk : InK last := by rw [← hlast, ← e2]; exact (hia _ (List.mem_of_mem_take (List.getElem_mem _))).1
    have e0 := hcell 0 (.int .i64 last) (by rw [← hlast]; rfl)
    repeat (first | refine sp ?_ | (refine is_load ?_; refine ld ?_) | (refine is_store ?_; refine sr ?_) | (refine is_alloc ?_; refine al ?_) | (refine is_box ?_; refine bx ?_) | (refine isl_load ?_; refine ldl ?_) | (refine isl_store ?_; refine srl ?_) | (refine isl_alloc ?_; refine all' ?_) | (refine isl_box ?_; refine bxl ?_))
    refine go_drawE (Fr (fun _ => False) w6) 4 Try.follows (by kernel_rfl) (by kernel_rfl) (by kernel_rfl) ((Fr.refl _ _).drewN 1) ?_
    repeat (first | refine sp ?_ | (refine is_load ?_; refine ld ?_) | (refine is_store ?_; refine sr ?_) | (refine is_alloc ?_; refine al ?_) | (refine is_box ?_; refine bx ?_) | (refine isl_load ?_; refine ldl ?_) | (refine isl_store ?_; refine srl ?_) | (refine isl_alloc ?_; refine all' ?_) | (refine isl_box ?_; refine bxl ?_))
    refine go_as 119 (u' := .int .i64 ((m - 1 : Nat) : Int)) rfl (by congr 1; omega) ?_
    repeat (first | refine sp ?_ | (refine is_load ?_; refine ld ?_) | (refine is_store ?_; refine sr ?_) | (refine is_alloc ?_; refine al ?_) | (refine is_box ?_; refine bx ?_) | (refine isl_load ?_; refine ldl ?_) | (refine isl_store ?_; refine srl ?_) | (refine isl_alloc ?_; refine all' ?_) | (refine isl_box ?_; refine bxl ?_))
    refine gol_call rfl rfl (c_refToken h ⟨x, y, m, rev⟩ last _ hh' hq hlk) ?_
    rintro v7 w7 ⟨ho7, hx7⟩
    have hx67 : Ext w6 w7 := Fr.trans (by (repeat (first | exact Fr.refl _ _ | assumption | apply Fr.drewN | apply Fr.alloc | (apply Fr.transF; assumption) | (refine Fr.setRow ?_ _ (by first | exact Or.inr (by (first | omega | (simp; done) | (simp; omega))) | (exact Or.inl (by first | assumption | (simp; done)))))))) hx7
    refine ⟨trivial, ?_⟩
    repeat (first | refine sp ?_ | (refine is_load ?_; refine ld ?_) | (refine is_store ?_; refine sr ?_) | (refine is_alloc ?_; refine al ?_) | (refine is_box ?_; refine bx ?_) | (refine isl_load ?_; refine ldl ?_) | (refine isl_store ?_; refine srl ?_) | (refine isl_alloc ?_; refine all' ?_) | (refine isl_box ?_; refine bxl ?_))
    refine go_ret3 rfl rfl rfl rfl ⟨_, rfl, ?_, hx06.trans hx67⟩
    rw [hZ]
    unfold pgFin
    rw [if_neg (by simp only; omega)]
    exact ⟨_, _, rfl, Own.ext ho6' hx67, by simp only [Int.toNat_natCast]; rw [hlast]; exact OwnB.mono ho7 (by have := hx06.size; simp; omega)⟩

end Go.Proofs.Yteghhalnpdikoaa

namespace Go.Proofs.Yteghhalnpdikoaa
open Go.Vc

set_option maxHeartbeats 4000000 in
theorem c_Page (w : World) (lo p : Nat) (qp : AP) (A : AR) (t : Tr) (h : Nat) (q : Rq) (tv : Value) (tok : List (BitVec 8)) (ha : ArP w lo p qp A) (hi : InA A t) (he : InE t.ents) (ho : Srt t.ents) (hsz : t.sz ≤ 100000) (hh' : h < 18446744073709551616) (hq : q.ok) (ht : By w tv tok) (htl : tok.length ≤ 70368744177664) :
    Calls Try.prog 40 [ptr p, .int .u32 (t.root : Int), .int .u64 (h : Int), .agg ⟨q.cells⟩, tv].toArray w (Ret fun r w' => PgR w w' r (pgP t.ents h q tok) ∧ (∃ A' n, ArP w' lo p qp A' ∧ Rds A A' n) ∧ Fr (fun z => z = p) w w') := by
  have hlen := t.len
  have hpl := ha.lt p ha.fpp
  obtain ⟨st, ct, rfl, htc, _⟩ := id ht
  generalize hle : t.ents = l at *
  have hP0 : (q.lim < 1 ∨ 1000 < q.lim ∨ q.hi < q.lo) → pgP l h q tok = ⟨[], [], 1⟩ := fun hc => by unfold pgP; rw [if_pos hc]
  have hP1 : ¬ (q.lim < 1 ∨ 1000 < q.lim ∨ q.hi < q.lo) → pgP l h q tok = if tok.length = 0 then pgFin h q (pgOrd q (pgSel l q none))
    else if (parP tok).1 ≠ 0 then ⟨[], [], (parP tok).1⟩
    else if pgBad h q (parP tok).2 then ⟨[], [], 11⟩
    else pgFin h q (pgOrd q (pgSel l q (some (parP tok).2.last))) := fun hc => by unfold pgP; rw [if_neg hc]
  obtain ⟨x, y, lim, rev⟩ := q
  simp only [Rq.cells] at hP0 hP1 hq ⊢
  generalize pgP l h ⟨x, y, lim, rev⟩ tok = Z at *
  refine calls_go Try.func40 rfl Try.ntmps40 (Nat.le_of_ble_eq_true rfl) ?_
  by_cases c1 : lim < 1
  · rw [hP0 (Or.inl c1)]
    repeat (first | refine sp ?_ | (refine is_load ?_; refine ld ?_) | (refine is_store ?_; refine sr ?_) | (refine is_alloc ?_; refine al ?_) | (refine is_box ?_; refine bx ?_) | (refine isl_load ?_; refine ldl ?_) | (refine isl_store ?_; refine srl ?_) | (refine isl_alloc ?_; refine all' ?_) | (refine isl_box ?_; refine bxl ?_))
    exact go_ret3 rfl rfl rfl rfl ⟨_, rfl, PgR.err _ _ 1, ⟨A, 0, ha.ext (by (repeat (first | exact Fr.refl _ _ | assumption | apply Fr.drewN | apply Fr.alloc | (apply Fr.transF; assumption) | (refine Fr.setRow ?_ _ (by first | exact Or.inr (by (first | omega | (simp; done) | (simp; omega))) | (exact Or.inl (by first | assumption | (simp; done)))))))), Rds.refl _ _⟩, by (repeat (first | exact Fr.refl _ _ | assumption | apply Fr.drewN | apply Fr.alloc | (apply Fr.transF; assumption) | (refine Fr.setRow ?_ _ (by first | exact Or.inr (by (first | omega | (simp; done) | (simp; omega))) | (exact Or.inl (by first | assumption | (simp; done)))))))⟩
  by_cases c2 : 1000 < lim
  · rw [hP0 (Or.inr (Or.inl c2))]
    repeat (first | refine sp ?_ | (refine is_load ?_; refine ld ?_) | (refine is_store ?_; refine sr ?_) | (refine is_alloc ?_; refine al ?_) | (refine is_box ?_; refine bx ?_) | (refine isl_load ?_; refine ldl ?_) | (refine isl_store ?_; refine srl ?_) | (refine isl_alloc ?_; refine all' ?_) | (refine isl_box ?_; refine bxl ?_))
    exact go_ret3 rfl rfl rfl rfl ⟨_, rfl, PgR.err _ _ 1, ⟨A, 0, ha.ext (by (repeat (first | exact Fr.refl _ _ | assumption | apply Fr.drewN | apply Fr.alloc | (apply Fr.transF; assumption) | (refine Fr.setRow ?_ _ (by first | exact Or.inr (by (first | omega | (simp; done) | (simp; omega))) | (exact Or.inl (by first | assumption | (simp; done)))))))), Rds.refl _ _⟩, by (repeat (first | exact Fr.refl _ _ | assumption | apply Fr.drewN | apply Fr.alloc | (apply Fr.transF; assumption) | (refine Fr.setRow ?_ _ (by first | exact Or.inr (by (first | omega | (simp; done) | (simp; omega))) | (exact Or.inl (by first | assumption | (simp; done)))))))⟩
  by_cases c3 : y < x
  · rw [hP0 (Or.inr (Or.inr c3))]
    repeat (first | refine sp ?_ | (refine is_load ?_; refine ld ?_) | (refine is_store ?_; refine sr ?_) | (refine is_alloc ?_; refine al ?_) | (refine is_box ?_; refine bx ?_) | (refine isl_load ?_; refine ldl ?_) | (refine isl_store ?_; refine srl ?_) | (refine isl_alloc ?_; refine all' ?_) | (refine isl_box ?_; refine bxl ?_))
    exact go_ret3 rfl rfl rfl rfl ⟨_, rfl, PgR.err _ _ 1, ⟨A, 0, ha.ext (by (repeat (first | exact Fr.refl _ _ | assumption | apply Fr.drewN | apply Fr.alloc | (apply Fr.transF; assumption) | (refine Fr.setRow ?_ _ (by first | exact Or.inr (by (first | omega | (simp; done) | (simp; omega))) | (exact Or.inl (by first | assumption | (simp; done)))))))), Rds.refl _ _⟩, by (repeat (first | exact Fr.refl _ _ | assumption | apply Fr.drewN | apply Fr.alloc | (apply Fr.transF; assumption) | (refine Fr.setRow ?_ _ (by first | exact Or.inr (by (first | omega | (simp; done) | (simp; omega))) | (exact Or.inl (by first | assumption | (simp; done)))))))⟩
  replace hP1 := hP1 (by omega)
  clear hP0
  obtain ⟨m, rfl⟩ : ∃ m : Nat, lim = m := ⟨lim.toNat, by omega⟩
  repeat (first | refine sp ?_ | (refine is_load ?_; refine ld ?_) | (refine is_store ?_; refine sr ?_) | (refine is_alloc ?_; refine al ?_) | (refine is_box ?_; refine bx ?_) | (refine isl_load ?_; refine ldl ?_) | (refine isl_store ?_; refine srl ?_) | (refine isl_alloc ?_; refine all' ?_) | (refine isl_box ?_; refine bxl ?_))
  refine go_name (F := fun w1 => At w1 w.heap.size [.int .i64 x, .int .i64 y, .int .i64 (m : Int), .bool rev] 52 ∧ Ext w w1) ⟨by (repeat (first | assumption | (refine At.new' (by (first | omega | (simp; done) | (simp; omega))) _ _) | apply At.alloc | apply At.drewN | apply At.setRow | (apply At.setRow_neF; first | assumption | (apply Ne.symm; assumption) | omega) | (apply At.extF; assumption))), by (repeat (first | exact Fr.refl _ _ | assumption | apply Fr.drewN | apply Fr.alloc | (apply Fr.transF; assumption) | (refine Fr.setRow ?_ _ (by first | exact Or.inr (by (first | omega | (simp; done) | (simp; omega))) | (exact Or.inl (by first | assumption | (simp; done)))))))⟩ ?_
  rintro w2 ⟨hb2, hx02⟩
  have hbl := hb2.lt
  repeat (first | refine sp ?_ | (refine is_load ?_; refine ld ?_) | (refine is_store ?_; refine sr ?_) | (refine is_alloc ?_; refine al ?_) | (refine is_box ?_; refine bx ?_) | (refine isl_load ?_; refine ldl ?_) | (refine isl_store ?_; refine srl ?_) | (refine isl_alloc ?_; refine all' ?_) | (refine isl_box ?_; refine bxl ?_) | refine dr Try.follows ?_)
  obtain ⟨⟨k1, k2⟩, ⟨k3, k4⟩, _⟩ := id hq
  simp only at k1 k2 k3 k4
  have hl2 := rng_len x y l
  refine go_cut (G := Int × Int × Bool) [13, 14, 15] (fun ⟨x', y', s⟩ => [.int .i64 x', .int .i64 y', .bool s]) [(0, ptr p), (1, .int .u32 (t.root : Int)), (2, .int .u64 (h : Int)), (8, ptr w.heap.size), (10, .slice none 0 0), (11, .slice none 0 0), (12, .int .i64 0)]
    (fun ⟨x', y', s⟩ w' => (s = false → Z = ⟨[], [], 0⟩) ∧ (s = true → x' ≤ y' ∧ Z = pgFin h ⟨x, y, m, rev⟩ (pgOrd ⟨x, y, m, rev⟩ (rng x' y' l))) ∧ At w' w.heap.size [.int .i64 x, .int .i64 y, .int .i64 (m : Int), .bool rev] 52 ∧ Ext w w') ?_ ?_
  · by_cases c4 : tok.length = 0
    · rw [if_pos c4] at hP1
      repeat (first | refine sp ?_ | (refine is_load ?_; refine ld ?_) | (refine is_store ?_; refine sr ?_) | (refine is_alloc ?_; refine al ?_) | (refine is_box ?_; refine bx ?_) | (refine isl_load ?_; refine ldl ?_) | (refine isl_store ?_; refine srl ?_) | (refine isl_alloc ?_; refine all' ?_) | (refine isl_box ?_; refine bxl ?_))
      exact go_stop (G := Int × Int × Bool) (x, y, true) rfl ⟨rfl, rfl, rfl, rfl, rfl, rfl, rfl, trivial⟩ ⟨(by intro h; cases h), fun _ => ⟨by omega, hP1⟩, hb2.ext (by (repeat (first | exact Fr.refl _ _ | assumption | apply Fr.drewN | apply Fr.alloc | (apply Fr.transF; assumption) | (refine Fr.setRow ?_ _ (by first | exact Or.inr (by (first | omega | (simp; done) | (simp; omega))) | (exact Or.inl (by first | assumption | (simp; done)))))))), by (repeat (first | exact Fr.refl _ _ | assumption | apply Fr.drewN | apply Fr.alloc | (apply Fr.transF; assumption) | (refine Fr.setRow ?_ _ (by first | exact Or.inr (by (first | omega | (simp; done) | (simp; omega))) | (exact Or.inl (by first | assumption | (simp; done)))))))⟩ trivial
    rw [if_neg c4] at hP1
    repeat (first | refine sp ?_ | (refine is_load ?_; refine ld ?_) | (refine is_store ?_; refine sr ?_) | (refine is_alloc ?_; refine al ?_) | (refine is_box ?_; refine bx ?_) | (refine isl_load ?_; refine ldl ?_) | (refine isl_store ?_; refine srl ?_) | (refine isl_alloc ?_; refine all' ?_) | (refine isl_box ?_; refine bxl ?_))
    refine go_call rfl rfl (c_Parse _ tok _ htl (ht.ext (by (repeat (first | exact Fr.refl _ _ | assumption | apply Fr.drewN | apply Fr.alloc | (apply Fr.transF; assumption) | (refine Fr.setRow ?_ _ (by first | exact Or.inr (by (first | omega | (simp; done) | (simp; omega))) | (exact Or.inl (by first | assumption | (simp; done)))))))))) ?_
    rintro _ w3 ⟨rfl, hx3⟩
    have hx23 : Ext w2 w3 := Fr.trans (by (repeat (first | exact Fr.refl _ _ | assumption | apply Fr.drewN | apply Fr.alloc | (apply Fr.transF; assumption) | (refine Fr.setRow ?_ _ (by first | exact Or.inr (by (first | omega | (simp; done) | (simp; omega))) | (exact Or.inl (by first | assumption | (simp; done)))))))) hx3
    have hs3 := hx23.size
    have hb3 := hb2.ext hx23
    have hx03 := hx02.trans hx23
    generalize parP tok = z at *
    obtain ⟨er, h2, x2, y2, last, rev2⟩ := z
    rw [show parV (er, ⟨h2, x2, y2, last, rev2⟩) = .tuple #[.int .u64 (h2 : Int), .agg ⟨[.int .i64 x2, .int .i64 y2, .int .i64 0, .bool rev2]⟩, .int .i64 last, .int .i64 (er : Int)] from rfl]
    simp only at hP1
    by_cases c5 : er = 0
    rotate_left
    · rw [if_pos c5] at hP1
      rw [hP1]
      repeat (first | refine sp ?_ | (refine is_load ?_; refine ld ?_) | (refine is_store ?_; refine sr ?_) | (refine is_alloc ?_; refine al ?_) | (refine is_box ?_; refine bx ?_) | (refine isl_load ?_; refine ldl ?_) | (refine isl_store ?_; refine srl ?_) | (refine isl_alloc ?_; refine all' ?_) | (refine isl_box ?_; refine bxl ?_))
      exact go_ret3 rfl rfl rfl rfl ⟨_, rfl, PgR.err _ _ er, ⟨A, 0, ha.ext (by (repeat (first | exact Fr.refl _ _ | assumption | apply Fr.drewN | apply Fr.alloc | (apply Fr.transF; assumption) | (refine Fr.setRow ?_ _ (by first | exact Or.inr (by (first | omega | (simp; done) | (simp; omega))) | (exact Or.inl (by first | assumption | (simp; done)))))))), Rds.refl _ _⟩, by (repeat (first | exact Fr.refl _ _ | assumption | apply Fr.drewN | apply Fr.alloc | (apply Fr.transF; assumption) | (refine Fr.setRow ?_ _ (by first | exact Or.inr (by (first | omega | (simp; done) | (simp; omega))) | (exact Or.inl (by first | assumption | (simp; done)))))))⟩
    rw [if_neg (by omega)] at hP1
    subst c5
    have hbad : pgBad h ⟨x, y, m, rev⟩ ⟨h2, x2, y2, last, rev2⟩ → Z = ⟨[], [], 11⟩ := fun hb => by rw [hP1, if_pos hb]
    have hgood : ¬ pgBad h ⟨x, y, m, rev⟩ ⟨h2, x2, y2, last, rev2⟩ → Z = _ := fun hb => by rw [hP1, if_neg hb]
    clear hP1
    unfold pgBad at hbad hgood
    simp only at hbad hgood
    by_cases d1 : h2 = h
    rotate_left
    · skip
      rw [hbad (by first | (left; omega) | (right; left; omega) | (right; right; left; omega) | (right; right; right; left; simp; done) | (right; right; right; right; left; omega) | (right; right; right; right; right; omega))]
      repeat (first | refine sp ?_ | (refine is_load ?_; refine ld ?_) | (refine is_store ?_; refine sr ?_) | (refine is_alloc ?_; refine al ?_) | (refine is_box ?_; refine bx ?_) | (refine isl_load ?_; refine ldl ?_) | (refine isl_store ?_; refine srl ?_) | (refine isl_alloc ?_; refine all' ?_) | (refine isl_box ?_; refine bxl ?_))
      exact go_ret3 rfl rfl rfl rfl ⟨_, rfl, PgR.err _ _ 11, ⟨A, 0, ha.ext (by (repeat (first | exact Fr.refl _ _ | assumption | apply Fr.drewN | apply Fr.alloc | (apply Fr.transF; assumption) | (refine Fr.setRow ?_ _ (by first | exact Or.inr (by (first | omega | (simp; done) | (simp; omega))) | (exact Or.inl (by first | assumption | (simp; done)))))))), Rds.refl _ _⟩, by (repeat (first | exact Fr.refl _ _ | assumption | apply Fr.drewN | apply Fr.alloc | (apply Fr.transF; assumption) | (refine Fr.setRow ?_ _ (by first | exact Or.inr (by (first | omega | (simp; done) | (simp; omega))) | (exact Or.inl (by first | assumption | (simp; done)))))))⟩
    by_cases d2 : x2 = x
    rotate_left
    · skip
      rw [hbad (by first | (left; omega) | (right; left; omega) | (right; right; left; omega) | (right; right; right; left; simp; done) | (right; right; right; right; left; omega) | (right; right; right; right; right; omega))]
      repeat (first | refine sp ?_ | (refine is_load ?_; refine ld ?_) | (refine is_store ?_; refine sr ?_) | (refine is_alloc ?_; refine al ?_) | (refine is_box ?_; refine bx ?_) | (refine isl_load ?_; refine ldl ?_) | (refine isl_store ?_; refine srl ?_) | (refine isl_alloc ?_; refine all' ?_) | (refine isl_box ?_; refine bxl ?_))
      exact go_ret3 rfl rfl rfl rfl ⟨_, rfl, PgR.err _ _ 11, ⟨A, 0, ha.ext (by (repeat (first | exact Fr.refl _ _ | assumption | apply Fr.drewN | apply Fr.alloc | (apply Fr.transF; assumption) | (refine Fr.setRow ?_ _ (by first | exact Or.inr (by (first | omega | (simp; done) | (simp; omega))) | (exact Or.inl (by first | assumption | (simp; done)))))))), Rds.refl _ _⟩, by (repeat (first | exact Fr.refl _ _ | assumption | apply Fr.drewN | apply Fr.alloc | (apply Fr.transF; assumption) | (refine Fr.setRow ?_ _ (by first | exact Or.inr (by (first | omega | (simp; done) | (simp; omega))) | (exact Or.inl (by first | assumption | (simp; done)))))))⟩
    by_cases d3 : y2 = y
    rotate_left
    · skip
      rw [hbad (by first | (left; omega) | (right; left; omega) | (right; right; left; omega) | (right; right; right; left; simp; done) | (right; right; right; right; left; omega) | (right; right; right; right; right; omega))]
      repeat (first | refine sp ?_ | (refine is_load ?_; refine ld ?_) | (refine is_store ?_; refine sr ?_) | (refine is_alloc ?_; refine al ?_) | (refine is_box ?_; refine bx ?_) | (refine isl_load ?_; refine ldl ?_) | (refine isl_store ?_; refine srl ?_) | (refine isl_alloc ?_; refine all' ?_) | (refine isl_box ?_; refine bxl ?_))
      exact go_ret3 rfl rfl rfl rfl ⟨_, rfl, PgR.err _ _ 11, ⟨A, 0, ha.ext (by (repeat (first | exact Fr.refl _ _ | assumption | apply Fr.drewN | apply Fr.alloc | (apply Fr.transF; assumption) | (refine Fr.setRow ?_ _ (by first | exact Or.inr (by (first | omega | (simp; done) | (simp; omega))) | (exact Or.inl (by first | assumption | (simp; done)))))))), Rds.refl _ _⟩, by (repeat (first | exact Fr.refl _ _ | assumption | apply Fr.drewN | apply Fr.alloc | (apply Fr.transF; assumption) | (refine Fr.setRow ?_ _ (by first | exact Or.inr (by (first | omega | (simp; done) | (simp; omega))) | (exact Or.inl (by first | assumption | (simp; done)))))))⟩
    subst d1 d2 d3
    cases rev <;> cases rev2
    · by_cases d5 : last < x2
      · skip
        rw [hbad (by first | (left; omega) | (right; left; omega) | (right; right; left; omega) | (right; right; right; left; simp; done) | (right; right; right; right; left; omega) | (right; right; right; right; right; omega))]
        repeat (first | refine sp ?_ | (refine is_load ?_; refine ld ?_) | (refine is_store ?_; refine sr ?_) | (refine is_alloc ?_; refine al ?_) | (refine is_box ?_; refine bx ?_) | (refine isl_load ?_; refine ldl ?_) | (refine isl_store ?_; refine srl ?_) | (refine isl_alloc ?_; refine all' ?_) | (refine isl_box ?_; refine bxl ?_))
        exact go_ret3 rfl rfl rfl rfl ⟨_, rfl, PgR.err _ _ 11, ⟨A, 0, ha.ext (by (repeat (first | exact Fr.refl _ _ | assumption | apply Fr.drewN | apply Fr.alloc | (apply Fr.transF; assumption) | (refine Fr.setRow ?_ _ (by first | exact Or.inr (by (first | omega | (simp; done) | (simp; omega))) | (exact Or.inl (by first | assumption | (simp; done)))))))), Rds.refl _ _⟩, by (repeat (first | exact Fr.refl _ _ | assumption | apply Fr.drewN | apply Fr.alloc | (apply Fr.transF; assumption) | (refine Fr.setRow ?_ _ (by first | exact Or.inr (by (first | omega | (simp; done) | (simp; omega))) | (exact Or.inl (by first | assumption | (simp; done)))))))⟩
      by_cases d6 : y2 < last
      · skip
        rw [hbad (by first | (left; omega) | (right; left; omega) | (right; right; left; omega) | (right; right; right; left; simp; done) | (right; right; right; right; left; omega) | (right; right; right; right; right; omega))]
        repeat (first | refine sp ?_ | (refine is_load ?_; refine ld ?_) | (refine is_store ?_; refine sr ?_) | (refine is_alloc ?_; refine al ?_) | (refine is_box ?_; refine bx ?_) | (refine isl_load ?_; refine ldl ?_) | (refine isl_store ?_; refine srl ?_) | (refine isl_alloc ?_; refine all' ?_) | (refine isl_box ?_; refine bxl ?_))
        exact go_ret3 rfl rfl rfl rfl ⟨_, rfl, PgR.err _ _ 11, ⟨A, 0, ha.ext (by (repeat (first | exact Fr.refl _ _ | assumption | apply Fr.drewN | apply Fr.alloc | (apply Fr.transF; assumption) | (refine Fr.setRow ?_ _ (by first | exact Or.inr (by (first | omega | (simp; done) | (simp; omega))) | (exact Or.inl (by first | assumption | (simp; done)))))))), Rds.refl _ _⟩, by (repeat (first | exact Fr.refl _ _ | assumption | apply Fr.drewN | apply Fr.alloc | (apply Fr.transF; assumption) | (refine Fr.setRow ?_ _ (by first | exact Or.inr (by (first | omega | (simp; done) | (simp; omega))) | (exact Or.inl (by first | assumption | (simp; done)))))))⟩
      replace hgood := hgood (by rintro (e | e | e | e | e | e) <;> first | exact e rfl | omega)
      clear hbad
      by_cases d7 : last < y2
      · repeat (first | refine sp ?_ | (refine is_load ?_; refine ld ?_) | (refine is_store ?_; refine sr ?_) | (refine is_alloc ?_; refine al ?_) | (refine is_box ?_; refine bx ?_) | (refine isl_load ?_; refine ldl ?_) | (refine isl_store ?_; refine srl ?_) | (refine isl_alloc ?_; refine all' ?_) | (refine isl_box ?_; refine bxl ?_))
        exact go_stop (G := Int × Int × Bool) (last + 1, y2, true) rfl ⟨rfl, rfl, rfl, rfl, rfl, rfl, rfl, trivial⟩ ⟨(by intro h; cases h), fun _ => ⟨by omega, hgood⟩, hb3.ext (by (repeat (first | exact Fr.refl _ _ | assumption | apply Fr.drewN | apply Fr.alloc | (apply Fr.transF; assumption) | (refine Fr.setRow ?_ _ (by first | exact Or.inr (by (first | omega | (simp; done) | (simp; omega))) | (exact Or.inl (by first | assumption | (simp; done)))))))), by (repeat (first | exact Fr.refl _ _ | assumption | apply Fr.drewN | apply Fr.alloc | (apply Fr.transF; assumption) | (refine Fr.setRow ?_ _ (by first | exact Or.inr (by (first | omega | (simp; done) | (simp; omega))) | (exact Or.inl (by first | assumption | (simp; done)))))))⟩ trivial
      · repeat (first | refine sp ?_ | (refine is_load ?_; refine ld ?_) | (refine is_store ?_; refine sr ?_) | (refine is_alloc ?_; refine al ?_) | (refine is_box ?_; refine bx ?_) | (refine isl_load ?_; refine ldl ?_) | (refine isl_store ?_; refine srl ?_) | (refine isl_alloc ?_; refine all' ?_) | (refine isl_box ?_; refine bxl ?_))
        refine go_stop (G := Int × Int × Bool) (_, y2, false) rfl ⟨rfl, rfl, rfl, rfl, rfl, rfl, rfl, trivial⟩ ⟨fun _ => ?_, (by intro h; cases h), hb3.ext (by (repeat (first | exact Fr.refl _ _ | assumption | apply Fr.drewN | apply Fr.alloc | (apply Fr.transF; assumption) | (refine Fr.setRow ?_ _ (by first | exact Or.inr (by (first | omega | (simp; done) | (simp; omega))) | (exact Or.inl (by first | assumption | (simp; done)))))))), by (repeat (first | exact Fr.refl _ _ | assumption | apply Fr.drewN | apply Fr.alloc | (apply Fr.transF; assumption) | (refine Fr.setRow ?_ _ (by first | exact Or.inr (by (first | omega | (simp; done) | (simp; omega))) | (exact Or.inl (by first | assumption | (simp; done)))))))⟩ trivial
        rw [hgood, show pgSel l ⟨x2, y2, m, false⟩ (some last) = rng (last + 1) y2 l from rfl, rng_none (fun e he => by omega)]
        unfold pgFin
        rw [if_pos (by simp [pgOrd])]; rfl
    · skip
      rw [hbad (by first | (left; omega) | (right; left; omega) | (right; right; left; omega) | (right; right; right; left; simp; done) | (right; right; right; right; left; omega) | (right; right; right; right; right; omega))]
      repeat (first | refine sp ?_ | (refine is_load ?_; refine ld ?_) | (refine is_store ?_; refine sr ?_) | (refine is_alloc ?_; refine al ?_) | (refine is_box ?_; refine bx ?_) | (refine isl_load ?_; refine ldl ?_) | (refine isl_store ?_; refine srl ?_) | (refine isl_alloc ?_; refine all' ?_) | (refine isl_box ?_; refine bxl ?_))
      exact go_ret3 rfl rfl rfl rfl ⟨_, rfl, PgR.err _ _ 11, ⟨A, 0, ha.ext (by (repeat (first | exact Fr.refl _ _ | assumption | apply Fr.drewN | apply Fr.alloc | (apply Fr.transF; assumption) | (refine Fr.setRow ?_ _ (by first | exact Or.inr (by (first | omega | (simp; done) | (simp; omega))) | (exact Or.inl (by first | assumption | (simp; done)))))))), Rds.refl _ _⟩, by (repeat (first | exact Fr.refl _ _ | assumption | apply Fr.drewN | apply Fr.alloc | (apply Fr.transF; assumption) | (refine Fr.setRow ?_ _ (by first | exact Or.inr (by (first | omega | (simp; done) | (simp; omega))) | (exact Or.inl (by first | assumption | (simp; done)))))))⟩
    · skip
      rw [hbad (by first | (left; omega) | (right; left; omega) | (right; right; left; omega) | (right; right; right; left; simp; done) | (right; right; right; right; left; omega) | (right; right; right; right; right; omega))]
      repeat (first | refine sp ?_ | (refine is_load ?_; refine ld ?_) | (refine is_store ?_; refine sr ?_) | (refine is_alloc ?_; refine al ?_) | (refine is_box ?_; refine bx ?_) | (refine isl_load ?_; refine ldl ?_) | (refine isl_store ?_; refine srl ?_) | (refine isl_alloc ?_; refine all' ?_) | (refine isl_box ?_; refine bxl ?_))
      exact go_ret3 rfl rfl rfl rfl ⟨_, rfl, PgR.err _ _ 11, ⟨A, 0, ha.ext (by (repeat (first | exact Fr.refl _ _ | assumption | apply Fr.drewN | apply Fr.alloc | (apply Fr.transF; assumption) | (refine Fr.setRow ?_ _ (by first | exact Or.inr (by (first | omega | (simp; done) | (simp; omega))) | (exact Or.inl (by first | assumption | (simp; done)))))))), Rds.refl _ _⟩, by (repeat (first | exact Fr.refl _ _ | assumption | apply Fr.drewN | apply Fr.alloc | (apply Fr.transF; assumption) | (refine Fr.setRow ?_ _ (by first | exact Or.inr (by (first | omega | (simp; done) | (simp; omega))) | (exact Or.inl (by first | assumption | (simp; done)))))))⟩
    · by_cases d5 : last < x2
      · skip
        rw [hbad (by first | (left; omega) | (right; left; omega) | (right; right; left; omega) | (right; right; right; left; simp; done) | (right; right; right; right; left; omega) | (right; right; right; right; right; omega))]
        repeat (first | refine sp ?_ | (refine is_load ?_; refine ld ?_) | (refine is_store ?_; refine sr ?_) | (refine is_alloc ?_; refine al ?_) | (refine is_box ?_; refine bx ?_) | (refine isl_load ?_; refine ldl ?_) | (refine isl_store ?_; refine srl ?_) | (refine isl_alloc ?_; refine all' ?_) | (refine isl_box ?_; refine bxl ?_))
        exact go_ret3 rfl rfl rfl rfl ⟨_, rfl, PgR.err _ _ 11, ⟨A, 0, ha.ext (by (repeat (first | exact Fr.refl _ _ | assumption | apply Fr.drewN | apply Fr.alloc | (apply Fr.transF; assumption) | (refine Fr.setRow ?_ _ (by first | exact Or.inr (by (first | omega | (simp; done) | (simp; omega))) | (exact Or.inl (by first | assumption | (simp; done)))))))), Rds.refl _ _⟩, by (repeat (first | exact Fr.refl _ _ | assumption | apply Fr.drewN | apply Fr.alloc | (apply Fr.transF; assumption) | (refine Fr.setRow ?_ _ (by first | exact Or.inr (by (first | omega | (simp; done) | (simp; omega))) | (exact Or.inl (by first | assumption | (simp; done)))))))⟩
      by_cases d6 : y2 < last
      · skip
        rw [hbad (by first | (left; omega) | (right; left; omega) | (right; right; left; omega) | (right; right; right; left; simp; done) | (right; right; right; right; left; omega) | (right; right; right; right; right; omega))]
        repeat (first | refine sp ?_ | (refine is_load ?_; refine ld ?_) | (refine is_store ?_; refine sr ?_) | (refine is_alloc ?_; refine al ?_) | (refine is_box ?_; refine bx ?_) | (refine isl_load ?_; refine ldl ?_) | (refine isl_store ?_; refine srl ?_) | (refine isl_alloc ?_; refine all' ?_) | (refine isl_box ?_; refine bxl ?_))
        exact go_ret3 rfl rfl rfl rfl ⟨_, rfl, PgR.err _ _ 11, ⟨A, 0, ha.ext (by (repeat (first | exact Fr.refl _ _ | assumption | apply Fr.drewN | apply Fr.alloc | (apply Fr.transF; assumption) | (refine Fr.setRow ?_ _ (by first | exact Or.inr (by (first | omega | (simp; done) | (simp; omega))) | (exact Or.inl (by first | assumption | (simp; done)))))))), Rds.refl _ _⟩, by (repeat (first | exact Fr.refl _ _ | assumption | apply Fr.drewN | apply Fr.alloc | (apply Fr.transF; assumption) | (refine Fr.setRow ?_ _ (by first | exact Or.inr (by (first | omega | (simp; done) | (simp; omega))) | (exact Or.inl (by first | assumption | (simp; done)))))))⟩
      replace hgood := hgood (by rintro (e | e | e | e | e | e) <;> first | exact e rfl | omega)
      clear hbad
      by_cases d7 : x2 < last
      · repeat (first | refine sp ?_ | (refine is_load ?_; refine ld ?_) | (refine is_store ?_; refine sr ?_) | (refine is_alloc ?_; refine al ?_) | (refine is_box ?_; refine bx ?_) | (refine isl_load ?_; refine ldl ?_) | (refine isl_store ?_; refine srl ?_) | (refine isl_alloc ?_; refine all' ?_) | (refine isl_box ?_; refine bxl ?_))
        exact go_stop (G := Int × Int × Bool) (x2, last - 1, true) rfl ⟨rfl, rfl, rfl, rfl, rfl, rfl, rfl, trivial⟩ ⟨(by intro h; cases h), fun _ => ⟨by omega, hgood⟩, hb3.ext (by (repeat (first | exact Fr.refl _ _ | assumption | apply Fr.drewN | apply Fr.alloc | (apply Fr.transF; assumption) | (refine Fr.setRow ?_ _ (by first | exact Or.inr (by (first | omega | (simp; done) | (simp; omega))) | (exact Or.inl (by first | assumption | (simp; done)))))))), by (repeat (first | exact Fr.refl _ _ | assumption | apply Fr.drewN | apply Fr.alloc | (apply Fr.transF; assumption) | (refine Fr.setRow ?_ _ (by first | exact Or.inr (by (first | omega | (simp; done) | (simp; omega))) | (exact Or.inl (by first | assumption | (simp; done)))))))⟩ trivial
      · repeat (first | refine sp ?_ | (refine is_load ?_; refine ld ?_) | (refine is_store ?_; refine sr ?_) | (refine is_alloc ?_; refine al ?_) | (refine is_box ?_; refine bx ?_) | (refine isl_load ?_; refine ldl ?_) | (refine isl_store ?_; refine srl ?_) | (refine isl_alloc ?_; refine all' ?_) | (refine isl_box ?_; refine bxl ?_))
        refine go_stop (G := Int × Int × Bool) (x2, _, false) rfl ⟨rfl, rfl, rfl, rfl, rfl, rfl, rfl, trivial⟩ ⟨fun _ => ?_, (by intro h; cases h), hb3.ext (by (repeat (first | exact Fr.refl _ _ | assumption | apply Fr.drewN | apply Fr.alloc | (apply Fr.transF; assumption) | (refine Fr.setRow ?_ _ (by first | exact Or.inr (by (first | omega | (simp; done) | (simp; omega))) | (exact Or.inl (by first | assumption | (simp; done)))))))), by (repeat (first | exact Fr.refl _ _ | assumption | apply Fr.drewN | apply Fr.alloc | (apply Fr.transF; assumption) | (refine Fr.setRow ?_ _ (by first | exact Or.inr (by (first | omega | (simp; done) | (simp; omega))) | (exact Or.inl (by first | assumption | (simp; done)))))))⟩ trivial
        rw [hgood, show pgSel l ⟨x2, y2, m, true⟩ (some last) = rng x2 (last - 1) l from rfl, rng_none (fun e he => by omega)]
        unfold pgFin
        rw [if_pos (by simp [pgOrd])]; rfl
  clear hP1 hb2 hx02 hbl
  rintro ⟨x', y', s⟩ w3 ⟨hZ0, hZ1, hb3, hx3⟩
  have hbl := hb3.lt
  have ha3 := ha.ext hx3
  have hs3 := hx3.size
  cases s
  · rw [hZ0 rfl]
    repeat (first | refine sp ?_ | (refine is_load ?_; refine ld ?_) | (refine is_store ?_; refine sr ?_) | (refine is_alloc ?_; refine al ?_) | (refine is_box ?_; refine bx ?_) | (refine isl_load ?_; refine ldl ?_) | (refine isl_store ?_; refine srl ?_) | (refine isl_alloc ?_; refine all' ?_) | (refine isl_box ?_; refine bxl ?_))
    exact go_ret3 rfl rfl rfl rfl ⟨_, rfl, PgR.err _ _ 0, ⟨A, 0, ha3.ext (by (repeat (first | exact Fr.refl _ _ | assumption | apply Fr.drewN | apply Fr.alloc | (apply Fr.transF; assumption) | (refine Fr.setRow ?_ _ (by first | exact Or.inr (by (first | omega | (simp; done) | (simp; omega))) | (exact Or.inl (by first | assumption | (simp; done)))))))), Rds.refl _ _⟩, by (repeat (first | exact Fr.refl _ _ | assumption | apply Fr.drewN | apply Fr.alloc | (apply Fr.transF; assumption) | (refine Fr.setRow ?_ _ (by first | exact Or.inr (by (first | omega | (simp; done) | (simp; omega))) | (exact Or.inl (by first | assumption | (simp; done)))))))⟩
  obtain ⟨hxy, hZ⟩ := hZ1 rfl
  clear hZ0 hZ1
  subst hle
  have hl3 := rng_len x' y' t.ents
  repeat (first | refine sp ?_ | (refine is_load ?_; refine ld ?_) | (refine is_store ?_; refine sr ?_) | (refine is_alloc ?_; refine al ?_) | (refine is_box ?_; refine bx ?_) | (refine isl_load ?_; refine ldl ?_) | (refine isl_store ?_; refine srl ?_) | (refine isl_alloc ?_; refine all' ?_) | (refine isl_box ?_; refine bxl ?_))
  refine go_cut (G := Value) [20] (fun v => [v]) [(2, .int .u64 (h : Int)), (8, ptr w.heap.size), (10, .slice none 0 0), (11, .slice none 0 0), (12, .int .i64 0)]
    (fun v w' => OwnE w' w.heap.size v ((pgOrd ⟨x, y, m, rev⟩ (rng x' y' t.ents)).take (m + 1)) ∧ (∃ A' n, ArP w' lo p qp A' ∧ Rds A A' n) ∧ At w' w.heap.size [.int .i64 x, .int .i64 y, .int .i64 (m : Int), .bool rev] 52 ∧ Fr (fun z => z = p) w w') ?_ ?_
  · cases rev
    · repeat (first | refine sp ?_ | (refine is_load ?_; refine ld ?_) | (refine is_store ?_; refine sr ?_) | (refine is_alloc ?_; refine al ?_) | (refine is_box ?_; refine bx ?_) | (refine isl_load ?_; refine ldl ?_) | (refine isl_store ?_; refine srl ?_) | (refine isl_alloc ?_; refine all' ?_) | (refine isl_box ?_; refine bxl ?_))
      refine go_as 119 (u' := .int .i64 ((m + 1 : Nat) : Int)) rfl (by congr 1) ?_
      refine go_call rfl rfl (c_Range w3 lo p qp A t x' y' (m + 1) ha3 hi he ho (by omega) hxy (by omega) (by omega)) ?_
      rintro v w4 ⟨ho4, A4, ha4, hR4, hf4⟩
      repeat (first | refine sp ?_ | (refine is_load ?_; refine ld ?_) | (refine is_store ?_; refine sr ?_) | (refine is_alloc ?_; refine al ?_) | (refine is_box ?_; refine bx ?_) | (refine isl_load ?_; refine ldl ?_) | (refine isl_store ?_; refine srl ?_) | (refine isl_alloc ?_; refine all' ?_) | (refine isl_box ?_; refine bxl ?_))
      exact go_stop (G := Value) v rfl ⟨rfl, rfl, rfl, rfl, rfl, trivial⟩ ⟨OwnE.mono ho4 hs3, ⟨A4, _, ha4, hR4⟩, hb3.fr hf4 (by omega), (Fr.of_ext hx3).trans hf4⟩ trivial
    · repeat (first | refine sp ?_ | (refine is_load ?_; refine ld ?_) | (refine is_store ?_; refine sr ?_) | (refine is_alloc ?_; refine al ?_) | (refine is_box ?_; refine bx ?_) | (refine isl_load ?_; refine ldl ?_) | (refine isl_store ?_; refine srl ?_) | (refine isl_alloc ?_; refine all' ?_) | (refine isl_box ?_; refine bxl ?_))
      refine go_as 111 (u' := .int .i64 ((m + 1 : Nat) : Int)) rfl (by congr 1) ?_
      refine go_call rfl rfl (c_descending w3 lo p qp A t x' y' (m + 1) ha3 hi he ho (by omega) (by omega)) ?_
      rintro v w4 ⟨ho4, hA4, hf4⟩
      repeat (first | refine sp ?_ | (refine is_load ?_; refine ld ?_) | (refine is_store ?_; refine sr ?_) | (refine is_alloc ?_; refine al ?_) | (refine is_box ?_; refine bx ?_) | (refine isl_load ?_; refine ldl ?_) | (refine isl_store ?_; refine srl ?_) | (refine isl_alloc ?_; refine all' ?_) | (refine isl_box ?_; refine bxl ?_))
      exact go_stop (G := Value) v rfl ⟨rfl, rfl, rfl, rfl, rfl, trivial⟩ ⟨OwnE.mono ho4 hs3, hA4, hb3.fr hf4 (by omega), (Fr.of_ext hx3).trans hf4⟩ trivial
  have hia : InE (pgOrd ⟨x, y, m, rev⟩ (rng x' y' t.ents)) := by
    unfold pgOrd; split
    · exact fun e he' => InE.rng he e (List.mem_reverse.1 he')
    · exact InE.rng he
  have hal : (pgOrd ⟨x, y, m, rev⟩ (rng x' y' t.ents)).length ≤ 100000 := by
    unfold pgOrd; split
    · rw [List.length_reverse]; omega
    · omega
  generalize pgOrd ⟨x, y, m, rev⟩ (rng x' y' t.ents) = a at *
  clear hb3 hx3 ha3
  rintro v w6 ⟨ho6, hA6, hb6, hf6⟩
  have hs6 := hf6.size
  have hl6 := hb6.lt
  obtain ⟨s6, k6, rfl, hk6, _⟩ := Own.slice ho6
  by_cases hc : a.length ≤ m
  · have e : a.take (m + 1) = a := List.take_of_length_le (by omega)
    rw [e] at ho6 ⊢
    repeat (first | refine sp ?_ | (refine is_load ?_; refine ld ?_) | (refine is_store ?_; refine sr ?_) | (refine is_alloc ?_; refine al ?_) | (refine is_box ?_; refine bx ?_) | (refine isl_load ?_; refine ldl ?_) | (refine isl_store ?_; refine srl ?_) | (refine isl_alloc ?_; refine all' ?_) | (refine isl_box ?_; refine bxl ?_))
    refine go_ret3 rfl rfl rfl rfl ⟨_, rfl, ?_, hA6, hf6⟩
    rw [hZ]
    unfold pgFin
    rw [if_pos (by simp only; omega)]
    exact ⟨_, _, rfl, ho6, Own.nil _ _ _ _⟩
  · have e : (a.take (m + 1)).length = m + 1 := by rw [List.length_take]; omega
    have hpre := OwnE.pre ho6 (k := m) (by omega)
    rw [List.take_take, Nat.min_eq_left (by omega)] at hpre
    have e' : (a.take m).length = m := by rw [List.length_take]; omega
    obtain ⟨b, o, es, hbl2, hcell⟩ := (Own.rd hpre rfl).up.at (m := 2) (fun _ => rfl) (by omega) (show m - 1 < (a.take m).length by omega)
    subst es
    rw [e] at hk6 ⊢
    have e2 : (a.take m)[m - 1]'(by omega) = a.getD (m - 1) (0, 0) := by rw [List.getElem_take, List.getD_eq_getElem?_getD, List.getElem?_eq_getElem (by omega)]; rfl
    rw [e2] at hcell
    obtain ⟨last, hlast⟩ : ∃ k, (a.getD (m - 1) (0, 0)).1 = k := ⟨_, rfl⟩
    have hlk : InK last := by rw [← hlast, ← e2]; exact (hia _ (List.mem_of_mem_take (List.getElem_mem _))).1
    have e0 := hcell 0 (.int .i64 last) (by rw [← hlast]; rfl)
    repeat (first | refine sp ?_ | (refine is_load ?_; refine ld ?_) | (refine is_store ?_; refine sr ?_) | (refine is_alloc ?_; refine al ?_) | (refine is_box ?_; refine bx ?_) | (refine isl_load ?_; refine ldl ?_) | (refine isl_store ?_; refine srl ?_) | (refine isl_alloc ?_; refine all' ?_) | (refine isl_box ?_; refine bxl ?_))
    refine go_p rfl (pr_sl (lo := 0) (hi := m) (by decide) rfl rfl ⟨_, _, rfl, rfl⟩ (by omega) (by omega)) ?_
    refine go_as 130 (u' := .slice (some ⟨b, o, none⟩) m k6) rfl (by unfold cutA; simp [Addr.add]) ?_
    repeat (first | refine sp ?_ | (refine is_load ?_; refine ld ?_) | (refine is_store ?_; refine sr ?_) | (refine is_alloc ?_; refine al ?_) | (refine is_box ?_; refine bx ?_) | (refine isl_load ?_; refine ldl ?_) | (refine isl_store ?_; refine srl ?_) | (refine isl_alloc ?_; refine all' ?_) | (refine isl_box ?_; refine bxl ?_))
    refine go_drawE (Fr (fun _ => False) w6) 4 Try.follows (by kernel_rfl) (by kernel_rfl) (by kernel_rfl) ((Fr.refl _ _).drewN 1) ?_
    repeat (first | refine sp ?_ | (refine is_load ?_; refine ld ?_) | (refine is_store ?_; refine sr ?_) | (refine is_alloc ?_; refine al ?_) | (refine is_box ?_; refine bx ?_) | (refine isl_load ?_; refine ldl ?_) | (refine isl_store ?_; refine srl ?_) | (refine isl_alloc ?_; refine all' ?_) | (refine isl_box ?_; refine bxl ?_))
    refine go_as 137 (u' := .int .i64 ((m - 1 : Nat) : Int)) rfl (by congr 1; omega) ?_
    repeat (first | refine sp ?_ | (refine is_load ?_; refine ld ?_) | (refine is_store ?_; refine sr ?_) | (refine is_alloc ?_; refine al ?_) | (refine is_box ?_; refine bx ?_) | (refine isl_load ?_; refine ldl ?_) | (refine isl_store ?_; refine srl ?_) | (refine isl_alloc ?_; refine all' ?_) | (refine isl_box ?_; refine bxl ?_))
    refine gol_call rfl rfl (c_Token h ⟨x, y, m, rev⟩ last _ hh' hq hlk) ?_
    rintro v7 w7 ⟨ho7, hx7⟩
    have hx67 : Ext w6 w7 := Fr.trans (by (repeat (first | exact Fr.refl _ _ | assumption | apply Fr.drewN | apply Fr.alloc | (apply Fr.transF; assumption) | (refine Fr.setRow ?_ _ (by first | exact Or.inr (by (first | omega | (simp; done) | (simp; omega))) | (exact Or.inl (by first | assumption | (simp; done)))))))) hx7
    refine ⟨trivial, ?_⟩
    repeat (first | refine sp ?_ | (refine is_load ?_; refine ld ?_) | (refine is_store ?_; refine sr ?_) | (refine is_alloc ?_; refine al ?_) | (refine is_box ?_; refine bx ?_) | (refine isl_load ?_; refine ldl ?_) | (refine isl_store ?_; refine srl ?_) | (refine isl_alloc ?_; refine all' ?_) | (refine isl_box ?_; refine bxl ?_))
    obtain ⟨A6, n6, ha6, hR6⟩ := hA6
    refine go_ret3 rfl rfl rfl rfl ⟨_, rfl, ?_, ⟨A6, n6, ha6.ext hx67, hR6⟩, hf6.trans (Fr.of_ext hx67)⟩
    rw [hZ]
    unfold pgFin
    rw [if_neg (by simp only; omega)]
    exact ⟨_, _, rfl, Own.ext hpre hx67, by simp only [Int.toNat_natCast]; rw [hlast]; exact OwnB.mono ho7 (by simp; omega)⟩

end Go.Proofs.Yteghhalnpdikoaa

namespace Go.Proofs.Yteghhalnpdikoaa
open Go.Vc

theorem tokB_len (h : Nat) (q : Rq) (last : Int) : 0 < (tokB h q last).length ∧ (tokB h q last).length ≤ 60 := by
  have h1 := frame_len (payl h q.lo q.hi q.rev last)
  have h2 := payl_le h q.lo q.hi q.rev last
  unfold tokB
  omega

def l123 : List (Int × Int) := [(1, 0), (2, 0), (3, 0)]
theorem pg_a1 : pgP l123 7 ⟨0, 9, 2, false⟩ [] = ⟨[(1, 0), (2, 0)], tokB 7 ⟨0, 9, 2, false⟩ 2, 0⟩ := rfl
theorem pg_a2 : pgP l123 7 ⟨0, 9, 2, false⟩ (tokB 7 ⟨0, 9, 2, false⟩ 2) = ⟨[(3, 0)], [], 0⟩ := by
  have h1 := parP_tok 7 ⟨0, 9, 2, false⟩ 2 (by omega) ⟨⟨by decide, by decide⟩, ⟨by decide, by decide⟩, by decide, by decide⟩ ⟨by decide, by decide⟩
  have h2 := tokB_len 7 ⟨0, 9, 2, false⟩ 2
  unfold pgP
  rw [if_neg (by simp only; omega), if_neg (by omega), h1]
  rfl

set_option maxHeartbeats 1000000 in
theorem c_awake25 (w : World) : Calls Try.prog 31 [].toArray w (Ret fun v w' => v = .bool true ∧ Ext w w') := by
  refine calls_go Try.func31 rfl Try.ntmps31 (Nat.le_of_ble_eq_true rfl) ?_
  repeat (first | refine sp ?_ | (refine is_load ?_; refine ld ?_) | (refine is_store ?_; refine sr ?_) | (refine is_alloc ?_; refine al ?_) | (refine is_box ?_; refine bx ?_) | (refine isl_load ?_; refine ldl ?_) | (refine isl_store ?_; refine srl ?_) | (refine isl_alloc ?_; refine all' ?_) | (refine isl_box ?_; refine bxl ?_))
  refine go_litG (l := [.int .i64 1, .int .i64 0, .int .i64 2, .int .i64 0, .int .i64 3, .int .i64 0]) rfl rfl (by decide) (by decide) rfl ?_
  have hrd : Rd (w.alloc (.cells [Value.int .i64 1, .int .i64 0, .int .i64 2, .int .i64 0, .int .i64 3, .int .i64 0].toArray 72)) 0 (.slice (some ⟨w.heap.size, 0, none⟩) 3 3) entC l123 :=
    At.rd (At.new w _ _) rfl (Nat.zero_le _)
  have hx0 : Ext w (w.alloc (.cells [Value.int .i64 1, .int .i64 0, .int .i64 2, .int .i64 0, .int .i64 3, .int .i64 0].toArray 72)) := by (repeat (first | exact Fr.refl _ _ | assumption | apply Fr.drewN | apply Fr.alloc | (apply Fr.transF; assumption) | (refine Fr.setRow ?_ _ (by first | exact Or.inr (by (first | omega | (simp; done) | (simp; omega))) | (exact Or.inl (by first | assumption | (simp; done)))))))
  have hok : OkL l123 3 := ⟨by simp [Srt, l123], (by
    intro e he
    simp only [l123, List.mem_cons, List.not_mem_nil, or_false] at he
    rcases he with rfl | rfl | rfl <;> exact ⟨⟨by decide, by decide⟩, ⟨by decide, by decide⟩⟩), by simp [l123]⟩
  refine go_call rfl rfl (c_GrowT w _ l123 3 _ 0 1 hrd.up hok (by omega) (by omega) (by omega) (by omega) hx0) ?_
  rintro _ w1 ⟨lo, p, q, B, t, rfl, g, hen, hsz, hre, _, _, _, _⟩
  have h3 : l123.length = 3 := rfl
  have hpl := g.ar.lt p g.ar.fpp
  have hq : (⟨0, 9, 2, false⟩ : Rq).ok := ⟨⟨by decide, by decide⟩, ⟨by decide, by decide⟩, by decide, by decide⟩
  repeat (first | refine sp ?_ | (refine is_load ?_; refine ld ?_) | (refine is_store ?_; refine sr ?_) | (refine is_alloc ?_; refine al ?_) | (refine is_box ?_; refine bx ?_) | (refine isl_load ?_; refine ldl ?_) | (refine isl_store ?_; refine srl ?_) | (refine isl_alloc ?_; refine all' ?_) | (refine isl_box ?_; refine bxl ?_))
  refine go_name (F := fun w2 => At w2 w1.heap.size [.int .i64 0, .int .i64 9, .int .i64 2, .bool false] 52 ∧ Ext w1 w2) ⟨by (repeat (first | assumption | (refine At.new' (by (first | omega | (simp; done) | (simp; omega))) _ _) | apply At.alloc | apply At.drewN | apply At.setRow | (apply At.setRow_neF; first | assumption | (apply Ne.symm; assumption) | omega) | (apply At.extF; assumption))), by (repeat (first | exact Fr.refl _ _ | assumption | apply Fr.drewN | apply Fr.alloc | (apply Fr.transF; assumption) | (refine Fr.setRow ?_ _ (by first | exact Or.inr (by (first | omega | (simp; done) | (simp; omega))) | (exact Or.inl (by first | assumption | (simp; done)))))))⟩ ?_
  rintro w2 ⟨hb2, hx2⟩
  have g2 := g.step hx2
  refine go_call rfl rfl (c_Page w2 _ p q B t 7 ⟨0, 9, 2, false⟩ (.slice none 0 0) [] g2.ar g2.inA g2.ine g2.srt (by omega) (by omega) hq (By.nil _) (by simp)) ?_
  rintro r w3 ⟨hpg, ⟨B3, n3, ha3, hR3⟩, hf3⟩
  rw [hen, pg_a1] at hpg
  obtain ⟨v1, v2, rfl, hv1, hv2⟩ := hpg
  obtain ⟨B3, g3, _, _⟩ := g2.rd ⟨B3, ha3, hR3, hf3⟩
  have hb3 := hb2.fr hf3 (by omega)
  obtain ⟨s1, k1, rfl, _, _⟩ := Own.slice hv1
  obtain ⟨s2, k2, rfl, _, _⟩ := Own.slice hv2
  have htl := tokB_len 7 ⟨0, 9, 2, false⟩ 2
  repeat (first | refine sp ?_ | (refine is_load ?_; refine ld ?_) | (refine is_store ?_; refine sr ?_) | (refine is_alloc ?_; refine al ?_) | (refine is_box ?_; refine bx ?_) | (refine isl_load ?_; refine ldl ?_) | (refine isl_store ?_; refine srl ?_) | (refine isl_alloc ?_; refine all' ?_) | (refine isl_box ?_; refine bxl ?_))
  refine go_call rfl rfl (c_Page w3 _ p q B3 t 7 ⟨0, 9, 2, false⟩ _ (tokB 7 ⟨0, 9, 2, false⟩ 2) g3.ar g3.inA g3.ine g3.srt (by omega) (by omega) hq hv2.by (by omega)) ?_
  rintro r w4 ⟨hpg, ⟨B4, n4, ha4, hR4⟩, hf4⟩
  rw [hen, pg_a2] at hpg
  obtain ⟨v3, v4, rfl, hv3, hv4⟩ := hpg
  obtain ⟨B4, g4, _, _⟩ := g3.rd ⟨B4, ha4, hR4, hf4⟩
  obtain ⟨s3, k3, rfl, _, _⟩ := Own.slice hv3
  obtain ⟨s4, k4, rfl, _, _⟩ := Own.slice hv4
  obtain ⟨b, o, e, hbl, hcell⟩ := (Own.rd hv3 rfl).up.at (m := 2) (fun _ => rfl) (by omega) (show 0 < [((3 : Int), (0 : Int))].length by simp)
  subst e
  have e0 : w4.cell? ⟨b, o + 0 * 2 + 0, none⟩ = some (.int .i64 3) := hcell 0 _ rfl
  obtain ⟨L, hL⟩ : ∃ L, (tokB 7 ⟨0, 9, 2, false⟩ 2).length = L := ⟨_, rfl⟩
  rw [hL] at htl
  simp only [hL, List.length_map, List.length_cons, List.length_nil, Nat.zero_add, Nat.reduceAdd]
  repeat (first | refine sp ?_ | (refine is_load ?_; refine ld ?_) | (refine is_store ?_; refine sr ?_) | (refine is_alloc ?_; refine al ?_) | (refine is_box ?_; refine bx ?_) | (refine isl_load ?_; refine ldl ?_) | (refine isl_store ?_; refine srl ?_) | (refine isl_alloc ?_; refine all' ?_) | (refine isl_box ?_; refine bxl ?_))
  refine is_index ?_; refine go_p rfl (pr_index (j := 0) rfl rfl rfl (by omega)) ?_
  repeat (first | refine sp ?_ | (refine is_load ?_; refine ld ?_) | (refine is_store ?_; refine sr ?_) | (refine is_alloc ?_; refine al ?_) | (refine is_box ?_; refine bx ?_) | (refine isl_load ?_; refine ldl ?_) | (refine isl_store ?_; refine srl ?_) | (refine isl_alloc ?_; refine all' ?_) | (refine isl_box ?_; refine bxl ?_))
  exact go_ret1 rfl rfl ⟨_, rfl, rfl, g4.ext⟩

end Go.Proofs.Yteghhalnpdikoaa

namespace Go.Proofs.Yteghhalnpdikoaa
open Go.Vc

instance (k : Int) : Decidable (InK k) := by unfold InK; infer_instance
theorem sameB_self' (l : List (BitVec 8)) : sameB l l = true := decide_eq_true rfl

set_option maxHeartbeats 1000000 in
theorem c_LawTokens (h : Nat) (q : Rq) (last : Int) (w : World) (hh : h < 18446744073709551616) (hq : q.ok) (hl : InK last) :
    Calls Try.prog 7 [.int .u64 (h : Int), .agg ⟨q.cells⟩, .int .i64 last].toArray w (Ret fun r w' => r = .bool true ∧ Ext w w') := by
  have hq0 := hq
  obtain ⟨x, y, lim, rev⟩ := q
  simp only [Rq.cells]
  refine calls_go Try.func7 rfl Try.ntmps7 (Nat.le_of_ble_eq_true rfl) ?_
  repeat (first | refine sp ?_ | (refine is_load ?_; refine ld ?_) | (refine is_store ?_; refine sr ?_) | (refine is_alloc ?_; refine al ?_) | (refine is_box ?_; refine bx ?_) | (refine isl_load ?_; refine ldl ?_) | (refine isl_store ?_; refine srl ?_) | (refine isl_alloc ?_; refine all' ?_) | (refine isl_box ?_; refine bxl ?_))
  refine go_name (F := fun w1 => At w1 w.heap.size [.int .i64 x, .int .i64 y, .int .i64 lim, .bool rev] 52 ∧ Ext w w1) ⟨by (repeat (first | assumption | (refine At.new' (by (first | omega | (simp; done) | (simp; omega))) _ _) | apply At.alloc | apply At.drewN | apply At.setRow | (apply At.setRow_neF; first | assumption | (apply Ne.symm; assumption) | omega) | (apply At.extF; assumption))), by (repeat (first | exact Fr.refl _ _ | assumption | apply Fr.drewN | apply Fr.alloc | (apply Fr.transF; assumption) | (refine Fr.setRow ?_ _ (by first | exact Or.inr (by (first | omega | (simp; done) | (simp; omega))) | (exact Or.inl (by first | assumption | (simp; done)))))))⟩ ?_
  rintro w1 ⟨hb1, hx1⟩
  refine go_call rfl rfl (c_Token h ⟨x, y, lim, rev⟩ last w1 hh hq0 hl) ?_
  rintro v w2 ⟨ho2, hx2⟩
  have hb2 := hb1.ext hx2
  have htl := tokB_len h ⟨x, y, lim, rev⟩ last
  have hbl := hb1.lt
  have hb0 := ho2.by
  obtain ⟨s, k, rfl, _, _⟩ := ho2.by
  repeat (first | refine sp ?_ | (refine is_load ?_; refine ld ?_) | (refine is_store ?_; refine sr ?_) | (refine is_alloc ?_; refine al ?_) | (refine is_box ?_; refine bx ?_) | (refine isl_load ?_; refine ldl ?_) | (refine isl_store ?_; refine srl ?_) | (refine isl_alloc ?_; refine all' ?_) | (refine isl_box ?_; refine bxl ?_))
  refine go_call rfl rfl (c_Parse _ _ w2 (by omega) hb0) ?_
  rintro _ w3 ⟨rfl, hx3⟩
  have hb3 := hb2.ext hx3
  have hs2 := hx2.size
  have hs3 := hx3.size
  rw [parP_tok h ⟨x, y, lim, rev⟩ last hh hq0 hl, parV_ok]
  repeat (first | refine sp ?_ | (refine is_load ?_; refine ld ?_) | (refine is_store ?_; refine sr ?_) | (refine is_alloc ?_; refine al ?_) | (refine is_box ?_; refine bx ?_) | (refine isl_load ?_; refine ldl ?_) | (refine isl_store ?_; refine srl ?_) | (refine isl_alloc ?_; refine all' ?_) | (refine isl_box ?_; refine bxl ?_))
  refine go_name (F := fun w4 => At w4 w.heap.size [.int .i64 x, .int .i64 y, .int .i64 0, .bool rev] 52 ∧ At w4 w3.heap.size [.int .i64 x, .int .i64 y, .int .i64 0, .bool rev] 52 ∧ Fr (fun b => b = w.heap.size) w1 w4 ∧ OwnB w4 w1.heap.size (.slice s (tokB h ⟨x, y, lim, rev⟩ last).length k) (tokB h ⟨x, y, lim, rev⟩ last)) ⟨by (repeat (first | assumption | (refine At.new' (by (first | omega | (simp; done) | (simp; omega))) _ _) | apply At.alloc | apply At.drewN | apply At.setRow | (apply At.setRow_neF; first | assumption | (apply Ne.symm; assumption) | omega) | (apply At.extF; assumption))), by (repeat (first | assumption | (refine At.new' (by (first | omega | (simp; done) | (simp; omega))) _ _) | apply At.alloc | apply At.drewN | apply At.setRow | (apply At.setRow_neF; first | assumption | (apply Ne.symm; assumption) | omega) | (apply At.extF; assumption))), ?_, ?_⟩ ?_
  · exact Fr.setRow (Fr.setRow (Fr.of_ext (Fr.alloc (hx2.trans hx3) _)) _ (Or.inr (by omega))) _ (Or.inl rfl)
  · exact Own.fr (S := fun b => b = w.heap.size) (ho2.ext hx3) (by (repeat (first | exact Fr.refl _ _ | assumption | apply Fr.drewN | apply Fr.alloc | (apply Fr.transF; assumption) | (refine Fr.setRow ?_ _ (by first | exact Or.inr (by (first | omega | (simp; done) | (simp; omega))) | (exact Or.inl (by first | assumption | (simp; done)))))))) (fun b hb e => by omega)
  rintro w4 ⟨hb4, hc4, hf4, ho4⟩
  refine go_call rfl rfl (c_awake25 w4) ?_
  rintro _ w5 ⟨rfl, hx5⟩
  have hb5 := hb4.ext hx5
  have hc5 := hc4.ext hx5
  repeat (first | refine sp ?_ | (refine is_load ?_; refine ld ?_) | (refine is_store ?_; refine sr ?_) | (refine is_alloc ?_; refine al ?_) | (refine is_box ?_; refine bx ?_) | (refine isl_load ?_; refine ldl ?_) | (refine isl_store ?_; refine srl ?_) | (refine isl_alloc ?_; refine all' ?_) | (refine isl_box ?_; refine bxl ?_))
  refine go_call rfl rfl (c_refToken h ⟨x, y, 0, rev⟩ last w5 hh ⟨hq0.1, hq0.2.1, (by decide : InK 0)⟩ hl) ?_
  rintro v6 w6 ⟨ho6, hx6⟩
  have hb6 := hb5.ext hx6
  have hc6 := hc5.ext hx6
  repeat (first | refine sp ?_ | (refine is_load ?_; refine ld ?_) | (refine is_store ?_; refine sr ?_) | (refine is_alloc ?_; refine al ?_) | (refine is_box ?_; refine bx ?_) | (refine isl_load ?_; refine ldl ?_) | (refine isl_store ?_; refine srl ?_) | (refine isl_alloc ?_; refine all' ?_) | (refine isl_box ?_; refine bxl ?_))
  refine go_call rfl rfl (c_Same _ _ _ _ w6 (by omega) ((ho4.by.ext hx5).ext hx6) ho6.by) ?_
  rintro _ w7 ⟨rfl, hx7⟩
  have hb7 := hb6.ext hx7
  have hc7 := hc6.ext hx7
  rw [show tokB h ⟨x, y, 0, rev⟩ last = tokB h ⟨x, y, lim, rev⟩ last from rfl, sameB_self']
  repeat (first | refine sp ?_ | (refine is_load ?_; refine ld ?_) | (refine is_store ?_; refine sr ?_) | (refine is_alloc ?_; refine al ?_) | (refine is_box ?_; refine bx ?_) | (refine isl_load ?_; refine ldl ?_) | (refine isl_store ?_; refine srl ?_) | (refine isl_alloc ?_; refine all' ?_) | (refine isl_box ?_; refine bxl ?_))
  refine go_as 47 (u' := .bool true) rfl (by simp [eqL]) ?_
  repeat (first | refine sp ?_ | (refine is_load ?_; refine ld ?_) | (refine is_store ?_; refine sr ?_) | (refine is_alloc ?_; refine al ?_) | (refine is_box ?_; refine bx ?_) | (refine isl_load ?_; refine ldl ?_) | (refine isl_store ?_; refine srl ?_) | (refine isl_alloc ?_; refine all' ?_) | (refine isl_box ?_; refine bxl ?_))
  exact go_ret1 rfl rfl ⟨_, rfl, rfl, hx1.trans' (hf4.trans (Fr.of_ext ((hx5.trans hx6).trans hx7))) fun b hb e => by omega⟩

end Go.Proofs.Yteghhalnpdikoaa

namespace Go.Proofs.Yteghhalnpdikoaa
open Go.Vc

def l12 : List (Int × Int) := [(1, 0), (2, 0)]

set_option maxHeartbeats 2000000 in
theorem c_LawBound (h o : Nat) (q r : Rq) (last : Int) (w : World) (hh : h < 18446744073709551616) (ho : o < 18446744073709551616) (hq : q.ok) (hr : r.ok) (hl : InK last) :
    Calls Try.prog 11 [.int .u64 (h : Int), .int .u64 (o : Int), .agg ⟨q.cells⟩, .agg ⟨r.cells⟩, .int .i64 last].toArray w (Ret fun r w' => r = .bool true ∧ Ext w w') := by
  obtain ⟨x, y, lim, rev⟩ := q
  obtain ⟨x2, y2, lim2, rev2⟩ := r
  have hq0 : (⟨x, y, 1, rev⟩ : Rq).ok := ⟨hq.1, hq.2.1, (by decide : InK 1)⟩
  have hr0 : (⟨x2, y2, 1, rev2⟩ : Rq).ok := ⟨hr.1, hr.2.1, (by decide : InK 1)⟩
  simp only [Rq.cells]
  refine calls_go Try.func11 rfl Try.ntmps11 (Nat.le_of_ble_eq_true rfl) ?_
  repeat (first | refine sp ?_ | (refine is_load ?_; refine ld ?_) | (refine is_store ?_; refine sr ?_) | (refine is_alloc ?_; refine al ?_) | (refine is_box ?_; refine bx ?_) | (refine isl_load ?_; refine ldl ?_) | (refine isl_store ?_; refine srl ?_) | (refine isl_alloc ?_; refine all' ?_) | (refine isl_box ?_; refine bxl ?_))
  refine go_litG (nb := w.heap.size + 1 + 1) (l := [.int .i64 1, .int .i64 0, .int .i64 2, .int .i64 0]) rfl rfl (by decide) (by decide) (by simp) ?_
  refine go_name (F := fun w1 => At w1 w.heap.size [.int .i64 x, .int .i64 y, .int .i64 lim, .bool rev] 52 ∧ At w1 (w.heap.size + 1) [.int .i64 x2, .int .i64 y2, .int .i64 lim2, .bool rev2] 52 ∧ Rd w1 0 (.slice (some ⟨w.heap.size + 1 + 1, 0, none⟩) 2 2) entC l12 ∧ Ext w w1) ⟨by (repeat (first | assumption | (refine At.new' (by (first | omega | (simp; done) | (simp; omega))) _ _) | apply At.alloc | apply At.drewN | apply At.setRow | (apply At.setRow_neF; first | assumption | (apply Ne.symm; assumption) | omega) | (apply At.extF; assumption))), by (repeat (first | assumption | (refine At.new' (by (first | omega | (simp; done) | (simp; omega))) _ _) | apply At.alloc | apply At.drewN | apply At.setRow | (apply At.setRow_neF; first | assumption | (apply Ne.symm; assumption) | omega) | (apply At.extF; assumption))), At.rd (T := 72) (by (repeat (first | assumption | (refine At.new' (by (first | omega | (simp; done) | (simp; omega))) _ _) | apply At.alloc | apply At.drewN | apply At.setRow | (apply At.setRow_neF; first | assumption | (apply Ne.symm; assumption) | omega) | (apply At.extF; assumption)))) rfl (Nat.zero_le _), by (repeat (first | exact Fr.refl _ _ | assumption | apply Fr.drewN | apply Fr.alloc | (apply Fr.transF; assumption) | (refine Fr.setRow ?_ _ (by first | exact Or.inr (by (first | omega | (simp; done) | (simp; omega))) | (exact Or.inl (by first | assumption | (simp; done)))))))⟩ ?_
  rintro w1 ⟨hb1, hc1, hrd, hx1⟩
  have hok : OkL l12 2 := ⟨by simp [Srt, l12], (by
    intro e he
    simp only [l12, List.mem_cons, List.not_mem_nil, or_false] at he
    rcases he with rfl | rfl <;> exact ⟨⟨by decide, by decide⟩, ⟨by decide, by decide⟩⟩), by simp [l12]⟩
  refine go_call rfl rfl (c_GrowT w1 _ l12 2 _ 0 1 hrd.up hok (by omega) (by omega) (by omega) (by omega) (Fr.refl _ _)) ?_
  rintro _ w2 ⟨lo, p, qp, B, t, rfl, g2, hen, hsz, hre, _, _, hx2, _⟩
  have h2 : l12.length = 2 := rfl
  have hb2 := hb1.ext hx2
  have hc2 := hc1.ext hx2
  repeat (first | refine sp ?_ | (refine is_load ?_; refine ld ?_) | (refine is_store ?_; refine sr ?_) | (refine is_alloc ?_; refine al ?_) | (refine is_box ?_; refine bx ?_) | (refine isl_load ?_; refine ldl ?_) | (refine isl_store ?_; refine srl ?_) | (refine isl_alloc ?_; refine all' ?_) | (refine isl_box ?_; refine bxl ?_))
  refine go_call rfl rfl (c_awake25 w2) ?_
  rintro _ w3 ⟨rfl, hx3⟩
  have hb3 := hb2.ext hx3
  have hc3 := hc2.ext hx3
  have g3 := g2.step hx3
  have hpl := g3.ar.lt p g3.ar.fpp
  have hpb := g3.pb
  have hcl := hc1.lt
  have hx03 : Ext w w3 := (hx1.trans hx2).trans hx3
  have hs3 := hx03.size
  have hfin : ∀ (W : World), Fr (fun b => w.heap.size ≤ b) w3 W → Ext w W := fun W hf => hx03.trans' hf fun b hb e => by omega
  by_cases c1 : y < x
  · repeat (first | refine sp ?_ | (refine is_load ?_; refine ld ?_) | (refine is_store ?_; refine sr ?_) | (refine is_alloc ?_; refine al ?_) | (refine is_box ?_; refine bx ?_) | (refine isl_load ?_; refine ldl ?_) | (refine isl_store ?_; refine srl ?_) | (refine isl_alloc ?_; refine all' ?_) | (refine isl_box ?_; refine bxl ?_))
    exact go_ret1 rfl rfl ⟨_, rfl, rfl, hfin _ (by (repeat (first | exact Fr.refl _ _ | assumption | apply Fr.drewN | apply Fr.alloc | (apply Fr.transF; assumption) | (refine Fr.setRow ?_ _ (by first | exact Or.inr (by (first | omega | (simp; done) | (simp; omega))) | (exact Or.inl (by first | assumption | (simp; done))))))))⟩
  by_cases c2 : y2 < x2
  · repeat (first | refine sp ?_ | (refine is_load ?_; refine ld ?_) | (refine is_store ?_; refine sr ?_) | (refine is_alloc ?_; refine al ?_) | (refine is_box ?_; refine bx ?_) | (refine isl_load ?_; refine ldl ?_) | (refine isl_store ?_; refine srl ?_) | (refine isl_alloc ?_; refine all' ?_) | (refine isl_box ?_; refine bxl ?_))
    exact go_ret1 rfl rfl ⟨_, rfl, rfl, hfin _ (by (repeat (first | exact Fr.refl _ _ | assumption | apply Fr.drewN | apply Fr.alloc | (apply Fr.transF; assumption) | (refine Fr.setRow ?_ _ (by first | exact Or.inr (by (first | omega | (simp; done) | (simp; omega))) | (exact Or.inl (by first | assumption | (simp; done))))))))⟩
  by_cases c4 : h = o ∧ x = x2 ∧ y = y2 ∧ rev = rev2
  · obtain ⟨rfl, rfl, rfl, rfl⟩ := c4
    repeat (first | refine sp ?_ | (refine is_load ?_; refine ld ?_) | (refine is_store ?_; refine sr ?_) | (refine is_alloc ?_; refine al ?_) | (refine is_box ?_; refine bx ?_) | (refine isl_load ?_; refine ldl ?_) | (refine isl_store ?_; refine srl ?_) | (refine isl_alloc ?_; refine all' ?_) | (refine isl_box ?_; refine bxl ?_))
    refine go_as 54 (u' := .bool true) rfl (by simp [eqL]) ?_
    repeat (first | refine sp ?_ | (refine is_load ?_; refine ld ?_) | (refine is_store ?_; refine sr ?_) | (refine is_alloc ?_; refine al ?_) | (refine is_box ?_; refine bx ?_) | (refine isl_load ?_; refine ldl ?_) | (refine isl_store ?_; refine srl ?_) | (refine isl_alloc ?_; refine all' ?_) | (refine isl_box ?_; refine bxl ?_))
    exact go_ret1 rfl rfl ⟨_, rfl, rfl, hfin _ (by (repeat (first | exact Fr.refl _ _ | assumption | apply Fr.drewN | apply Fr.alloc | (apply Fr.transF; assumption) | (refine Fr.setRow ?_ _ (by first | exact Or.inr (by (first | omega | (simp; done) | (simp; omega))) | (exact Or.inl (by first | assumption | (simp; done))))))))⟩
  have htl := tokB_len h ⟨x, y, 1, rev⟩ last
  have hP : pgP l12 o ⟨x2, y2, 1, rev2⟩ (tokB h ⟨x, y, 1, rev⟩ last) = ⟨[], [], 11⟩ := by
    unfold pgP
    rw [if_neg (by simp only; omega), if_neg (by omega), parP_tok h ⟨x, y, 1, rev⟩ last hh hq0 hl, if_neg (by simp only; omega), if_pos]
    show h ≠ o ∨ x ≠ x2 ∨ y ≠ y2 ∨ rev ≠ rev2 ∨ _
    by_cases d1 : h = o
    · by_cases d2 : x = x2
      · by_cases d3 : y = y2
        · exact Or.inr (Or.inr (Or.inr (Or.inl fun d4 => c4 ⟨d1, d2, d3, d4⟩)))
        · exact Or.inr (Or.inr (Or.inl d3))
      · exact Or.inr (Or.inl d2)
    · exact Or.inl d1
  by_cases c3 : h = o
  · have e : eqL [.int .i64 x, .int .i64 y, .int .i64 1, .bool rev] [.int .i64 x2, .int .i64 y2, .int .i64 1, .bool rev2] = false := by
      rw [Bool.eq_false_iff]; intro h; simp [eqL] at h; exact c4 ⟨c3, h.1, h.2.1, h.2.2⟩
    repeat (first | refine sp ?_ | (refine is_load ?_; refine ld ?_) | (refine is_store ?_; refine sr ?_) | (refine is_alloc ?_; refine al ?_) | (refine is_box ?_; refine bx ?_) | (refine isl_load ?_; refine ldl ?_) | (refine isl_store ?_; refine srl ?_) | (refine isl_alloc ?_; refine all' ?_) | (refine isl_box ?_; refine bxl ?_))
    refine go_as 54 (u' := .bool false) rfl (by rw [← e]) ?_
    repeat (first | refine sp ?_ | (refine is_load ?_; refine ld ?_) | (refine is_store ?_; refine sr ?_) | (refine is_alloc ?_; refine al ?_) | (refine is_box ?_; refine bx ?_) | (refine isl_load ?_; refine ldl ?_) | (refine isl_store ?_; refine srl ?_) | (refine isl_alloc ?_; refine all' ?_) | (refine isl_box ?_; refine bxl ?_))
    refine go_name (F := fun w4 => At w4 w.heap.size [.int .i64 x, .int .i64 y, .int .i64 1, .bool rev] 52 ∧ At w4 (w.heap.size + 1) [.int .i64 x2, .int .i64 y2, .int .i64 1, .bool rev2] 52 ∧ Fr (fun b => b = w.heap.size ∨ b = w.heap.size + 1) w3 w4) ⟨by (repeat (first | assumption | (refine At.new' (by (first | omega | (simp; done) | (simp; omega))) _ _) | apply At.alloc | apply At.drewN | apply At.setRow | (apply At.setRow_neF; first | assumption | (apply Ne.symm; assumption) | omega) | (apply At.extF; assumption))), by (repeat (first | assumption | (refine At.new' (by (first | omega | (simp; done) | (simp; omega))) _ _) | apply At.alloc | apply At.drewN | apply At.setRow | (apply At.setRow_neF; first | assumption | (apply Ne.symm; assumption) | omega) | (apply At.extF; assumption))), Fr.setRow (Fr.setRow (Fr.refl _ _) _ (Or.inl (Or.inl rfl))) _ (Or.inl (Or.inr rfl))⟩ ?_
    rintro w4 ⟨hb4, hc4, hf4⟩
    have ha4 : ArP w4 lo p qp B := g3.ar.fr hf4 fun b hb e => by have := g3.lof.1 b hb; have := g3.lof.2.2; omega
    have hs4 := hf4.size
    refine go_drawE (Fr (fun _ => False) w4) 8 Try.follows (by kernel_rfl) (by kernel_rfl) (by kernel_rfl) ((Fr.refl _ _).drewN 1) ?_
    repeat (first | refine sp ?_ | (refine is_load ?_; refine ld ?_) | (refine is_store ?_; refine sr ?_) | (refine is_alloc ?_; refine al ?_) | (refine is_box ?_; refine bx ?_) | (refine isl_load ?_; refine ldl ?_) | (refine isl_store ?_; refine srl ?_) | (refine isl_alloc ?_; refine all' ?_) | (refine isl_box ?_; refine bxl ?_))
    refine gol_call rfl rfl (c_refToken h ⟨x, y, 1, rev⟩ last _ hh hq0 hl) ?_
    rintro v5 w5 ⟨ho5, hx5⟩
    have hx45 : Ext w4 w5 := Fr.trans (by (repeat (first | exact Fr.refl _ _ | assumption | apply Fr.drewN | apply Fr.alloc | (apply Fr.transF; assumption) | (refine Fr.setRow ?_ _ (by first | exact Or.inr (by (first | omega | (simp; done) | (simp; omega))) | (exact Or.inl (by first | assumption | (simp; done)))))))) hx5
    refine ⟨hx45, ?_⟩
    have hs5 := hx45.size
    repeat (first | refine sp ?_ | (refine is_load ?_; refine ld ?_) | (refine is_store ?_; refine sr ?_) | (refine is_alloc ?_; refine al ?_) | (refine is_box ?_; refine bx ?_) | (refine isl_load ?_; refine ldl ?_) | (refine isl_store ?_; refine srl ?_) | (refine isl_alloc ?_; refine all' ?_) | (refine isl_box ?_; refine bxl ?_))
    refine gol_call rfl rfl (c_Page w5 lo p qp B t o ⟨x2, y2, 1, rev2⟩ v5 (tokB h ⟨x, y, 1, rev⟩ last) (ha4.ext hx45) g3.inA g3.ine g3.srt (by omega) ho hr0 ho5.by (by omega)) ?_
    rintro r w6 ⟨hpg, _, hf6⟩
    rw [hen, hP] at hpg
    obtain ⟨v1, v2, rfl, hv1, hv2⟩ := hpg
    obtain ⟨s1, k1, rfl, _, _⟩ := Own.slice hv1
    obtain ⟨s2, k2, rfl, _, _⟩ := Own.slice hv2
    simp only [List.length_map, List.length_nil]
    refine ⟨trivial, ?_⟩
    repeat (first | refine sp ?_ | (refine is_load ?_; refine ld ?_) | (refine is_store ?_; refine sr ?_) | (refine is_alloc ?_; refine al ?_) | (refine is_box ?_; refine bx ?_) | (refine isl_load ?_; refine ldl ?_) | (refine isl_store ?_; refine srl ?_) | (refine isl_alloc ?_; refine all' ?_) | (refine isl_box ?_; refine bxl ?_))
    exact go_ret1 rfl rfl ⟨_, rfl, rfl, hfin _ (((hf4.mono fun b e => by omega).trans (Fr.of_ext hx45)).trans' hf6 fun b hb e => by omega)⟩
  · repeat (first | refine sp ?_ | (refine is_load ?_; refine ld ?_) | (refine is_store ?_; refine sr ?_) | (refine is_alloc ?_; refine al ?_) | (refine is_box ?_; refine bx ?_) | (refine isl_load ?_; refine ldl ?_) | (refine isl_store ?_; refine srl ?_) | (refine isl_alloc ?_; refine all' ?_) | (refine isl_box ?_; refine bxl ?_))
    repeat (first | refine sp ?_ | (refine is_load ?_; refine ld ?_) | (refine is_store ?_; refine sr ?_) | (refine is_alloc ?_; refine al ?_) | (refine is_box ?_; refine bx ?_) | (refine isl_load ?_; refine ldl ?_) | (refine isl_store ?_; refine srl ?_) | (refine isl_alloc ?_; refine all' ?_) | (refine isl_box ?_; refine bxl ?_))
    refine go_name (F := fun w4 => At w4 w.heap.size [.int .i64 x, .int .i64 y, .int .i64 1, .bool rev] 52 ∧ At w4 (w.heap.size + 1) [.int .i64 x2, .int .i64 y2, .int .i64 1, .bool rev2] 52 ∧ Fr (fun b => b = w.heap.size ∨ b = w.heap.size + 1) w3 w4) ⟨by (repeat (first | assumption | (refine At.new' (by (first | omega | (simp; done) | (simp; omega))) _ _) | apply At.alloc | apply At.drewN | apply At.setRow | (apply At.setRow_neF; first | assumption | (apply Ne.symm; assumption) | omega) | (apply At.extF; assumption))), by (repeat (first | assumption | (refine At.new' (by (first | omega | (simp; done) | (simp; omega))) _ _) | apply At.alloc | apply At.drewN | apply At.setRow | (apply At.setRow_neF; first | assumption | (apply Ne.symm; assumption) | omega) | (apply At.extF; assumption))), Fr.setRow (Fr.setRow (Fr.refl _ _) _ (Or.inl (Or.inl rfl))) _ (Or.inl (Or.inr rfl))⟩ ?_
    rintro w4 ⟨hb4, hc4, hf4⟩
    have ha4 : ArP w4 lo p qp B := g3.ar.fr hf4 fun b hb e => by have := g3.lof.1 b hb; have := g3.lof.2.2; omega
    have hs4 := hf4.size
    refine go_drawE (Fr (fun _ => False) w4) 8 Try.follows (by kernel_rfl) (by kernel_rfl) (by kernel_rfl) ((Fr.refl _ _).drewN 1) ?_
    repeat (first | refine sp ?_ | (refine is_load ?_; refine ld ?_) | (refine is_store ?_; refine sr ?_) | (refine is_alloc ?_; refine al ?_) | (refine is_box ?_; refine bx ?_) | (refine isl_load ?_; refine ldl ?_) | (refine isl_store ?_; refine srl ?_) | (refine isl_alloc ?_; refine all' ?_) | (refine isl_box ?_; refine bxl ?_))
    refine gol_call rfl rfl (c_refToken h ⟨x, y, 1, rev⟩ last _ hh hq0 hl) ?_
    rintro v5 w5 ⟨ho5, hx5⟩
    have hx45 : Ext w4 w5 := Fr.trans (by (repeat (first | exact Fr.refl _ _ | assumption | apply Fr.drewN | apply Fr.alloc | (apply Fr.transF; assumption) | (refine Fr.setRow ?_ _ (by first | exact Or.inr (by (first | omega | (simp; done) | (simp; omega))) | (exact Or.inl (by first | assumption | (simp; done)))))))) hx5
    refine ⟨hx45, ?_⟩
    have hs5 := hx45.size
    repeat (first | refine sp ?_ | (refine is_load ?_; refine ld ?_) | (refine is_store ?_; refine sr ?_) | (refine is_alloc ?_; refine al ?_) | (refine is_box ?_; refine bx ?_) | (refine isl_load ?_; refine ldl ?_) | (refine isl_store ?_; refine srl ?_) | (refine isl_alloc ?_; refine all' ?_) | (refine isl_box ?_; refine bxl ?_))
    refine gol_call rfl rfl (c_Page w5 lo p qp B t o ⟨x2, y2, 1, rev2⟩ v5 (tokB h ⟨x, y, 1, rev⟩ last) (ha4.ext hx45) g3.inA g3.ine g3.srt (by omega) ho hr0 ho5.by (by omega)) ?_
    rintro r w6 ⟨hpg, _, hf6⟩
    rw [hen, hP] at hpg
    obtain ⟨v1, v2, rfl, hv1, hv2⟩ := hpg
    obtain ⟨s1, k1, rfl, _, _⟩ := Own.slice hv1
    obtain ⟨s2, k2, rfl, _, _⟩ := Own.slice hv2
    simp only [List.length_map, List.length_nil]
    refine ⟨trivial, ?_⟩
    repeat (first | refine sp ?_ | (refine is_load ?_; refine ld ?_) | (refine is_store ?_; refine sr ?_) | (refine is_alloc ?_; refine al ?_) | (refine is_box ?_; refine bx ?_) | (refine isl_load ?_; refine ldl ?_) | (refine isl_store ?_; refine srl ?_) | (refine isl_alloc ?_; refine all' ?_) | (refine isl_box ?_; refine bxl ?_))
    exact go_ret1 rfl rfl ⟨_, rfl, rfl, hfin _ (((hf4.mono fun b e => by omega).trans (Fr.of_ext hx45)).trans' hf6 fun b hb e => by omega)⟩

end Go.Proofs.Yteghhalnpdikoaa

namespace Go.Proofs.Yteghhalnpdikoaa
open Go.Vc

set_option maxHeartbeats 4000000 in
theorem c_LawParses (v : Value) (l : List (BitVec 8)) (h : Nat) (q : Rq) (last a : Int) (c kd : BitVec 8) (w : World) (hl : l.length ≤ 9223372036854775807) (hv : By w v l) (hh : h < 18446744073709551616) (hq : q.ok) (hla : InK last) (ha : InK a) :
    Calls Try.prog 8 [v, .int .u64 (h : Int), .agg ⟨q.cells⟩, .int .i64 last, .int .i64 a, u8 c, u8 kd].toArray w (Ret fun r w' => r = .bool true ∧ Ext w w') := by
  have hb := hv
  obtain ⟨sa, cap, rfl, hcap, hr⟩ := hv
  have hq0 := hq
  obtain ⟨x, y, lim, rev⟩ := q
  simp only [Rq.cells]
  refine calls_go Try.func8 rfl Try.ntmps8 (Nat.le_of_ble_eq_true rfl) ?_
  by_cases h6 : 200 < l.length
  · repeat (first | refine sp ?_ | (refine is_load ?_; refine ld ?_) | (refine is_store ?_; refine sr ?_) | (refine is_alloc ?_; refine al ?_) | (refine is_box ?_; refine bx ?_) | (refine isl_load ?_; refine ldl ?_) | (refine isl_store ?_; refine srl ?_) | (refine isl_alloc ?_; refine all' ?_) | (refine isl_box ?_; refine bxl ?_))
    refine go_call rfl rfl (c_awake25 _) ?_
    rintro r w1 ⟨rfl, hx⟩
    repeat (first | refine sp ?_ | (refine is_load ?_; refine ld ?_) | (refine is_store ?_; refine sr ?_) | (refine is_alloc ?_; refine al ?_) | (refine is_box ?_; refine bx ?_) | (refine isl_load ?_; refine ldl ?_) | (refine isl_store ?_; refine srl ?_) | (refine isl_alloc ?_; refine all' ?_) | (refine isl_box ?_; refine bxl ?_))
    exact go_ret1 rfl rfl ⟨_, rfl, rfl, Fr.trans (by (repeat (first | exact Fr.refl _ _ | assumption | apply Fr.drewN | apply Fr.alloc | (apply Fr.transF; assumption) | (refine Fr.setRow ?_ _ (by first | exact Or.inr (by (first | omega | (simp; done) | (simp; omega))) | (exact Or.inl (by first | assumption | (simp; done)))))))) hx⟩
  have htl := tokB_len h ⟨x, y, lim, rev⟩ last
  repeat (first | refine sp ?_ | (refine is_load ?_; refine ld ?_) | (refine is_store ?_; refine sr ?_) | (refine is_alloc ?_; refine al ?_) | (refine is_box ?_; refine bx ?_) | (refine isl_load ?_; refine ldl ?_) | (refine isl_store ?_; refine srl ?_) | (refine isl_alloc ?_; refine all' ?_) | (refine isl_box ?_; refine bxl ?_))
  refine go_call rfl rfl (c_refToken h ⟨x, y, lim, rev⟩ last _ hh hq0 hla) ?_
  rintro r w1 ⟨hox, hx0⟩
  have hx : Ext w w1 := Fr.trans (by (repeat (first | exact Fr.refl _ _ | assumption | apply Fr.drewN | apply Fr.alloc | (apply Fr.transF; assumption) | (refine Fr.setRow ?_ _ (by first | exact Or.inr (by (first | omega | (simp; done) | (simp; omega))) | (exact Or.inl (by first | assumption | (simp; done)))))))) hx0
  generalize hF : tokB h ⟨x, y, lim, rev⟩ last = fr at *
  obtain ⟨sx, cx, rfl, hcx, hrx⟩ := hox.by
  have hk1 := Int.emod_nonneg a (show (fr.length : Int) ≠ 0 by omega)
  have hk2 := Int.emod_lt_of_pos a (show 0 < (fr.length : Int) by omega)
  repeat (first | refine sp ?_ | (refine is_load ?_; refine ld ?_) | (refine is_store ?_; refine sr ?_) | (refine is_alloc ?_; refine al ?_) | (refine is_box ?_; refine bx ?_) | (refine isl_load ?_; refine ldl ?_) | (refine isl_store ?_; refine srl ?_) | (refine isl_alloc ?_; refine all' ?_) | (refine isl_box ?_; refine bxl ?_))
  refine go_call rfl rfl (c_ModB a fr.length w1 ha (by omega)) ?_
  rintro r w2 ⟨rfl, rfl⟩
  generalize a % (fr.length : Int) = ki at *
  obtain ⟨k, rfl⟩ : ∃ k : Nat, ki = k := ⟨ki.toNat, by omega⟩
  repeat (first | refine sp ?_ | (refine is_load ?_; refine ld ?_) | (refine is_store ?_; refine sr ?_) | (refine is_alloc ?_; refine al ?_) | (refine is_box ?_; refine bx ?_) | (refine isl_load ?_; refine ldl ?_) | (refine isl_store ?_; refine srl ?_) | (refine isl_alloc ?_; refine all' ?_) | (refine isl_box ?_; refine bxl ?_))
  refine go_p rfl (pr_sl (lo := 0) (hi := k) (by decide) rfl rfl ⟨_, _, rfl, rfl⟩ (by omega) (by omega)) ?_
  refine go_p rfl (pr_basic0 rfl) ?_
  refine go_lit (nb := w2.heap.size) rfl rfl rfl (by decide) (by decide) rfl ?_
  have hx2 : Ext w (w2.alloc (.cells #[u8 c] 5)) := hx.alloc _
  have hlt : By (w2.alloc (.cells #[u8 c] 5)) (.slice (some ⟨w2.heap.size, 0, none⟩) 1 1) [c] := by
    refine ⟨_, _, rfl, Nat.le_refl _, fun j q hj => ⟨_, _, rfl, ?_⟩⟩
    have := (At.new w2 [u8 c] 5).cell (i := j) (v := q) hj
    simpa using this
  have hcutk := (byCut (lo := 0) (hi := k) hrx (by omega) (by omega) hcx).ext ((Fr.refl _ _).alloc (.cells #[u8 c] 5))
  have hcuts := (byCut (lo := k) (hi := fr.length) hrx (by omega) (by omega) hcx).ext ((Fr.refl _ _).alloc (.cells #[u8 c] 5))
  have hcuts1 := (byCut (lo := k + 1) (hi := fr.length) hrx (by omega) (by omega) hcx).ext ((Fr.refl _ _).alloc (.cells #[u8 c] 5))
  have hboxx : By (w2.alloc (.cells #[u8 c] 5)) (.slice sx fr.length cx) fr := (show By w2 _ _ from ⟨sx, cx, rfl, hcx, hrx⟩).ext ((Fr.refl _ _).alloc (.cells #[u8 c] 5))
  have hl0 : ((fr.take k).drop 0).length ≤ 614 := by simp; omega
  have hl1 : ((fr.take fr.length).drop k).length ≤ 614 := by simp; omega
  have hl2 : ((fr.take fr.length).drop (k + 1)).length ≤ 614 := by simp; omega
  generalize hw3 : w2.alloc (.cells #[u8 c] 5) = w3 at *
  generalize (fr.take k).drop 0 = f1 at *
  generalize (fr.take fr.length).drop k = f2 at *
  generalize (fr.take fr.length).drop (k + 1) = f3 at *
  refine go_call rfl rfl (c_Join _ _ f1 [c] w3 (by simp; omega) hcutk hlt) ?_
  rintro r w4 ⟨hoy, hx4⟩
  have hx4' := hx2.trans hx4
  have hy4 := hoy.by
  have hll : (f1 ++ [c]).length ≤ 620 := by simp; omega
  obtain ⟨sy, cy, rfl, hcy, hry⟩ := hoy.by
  have hkl := kd.isLt
  refine go_p rfl (pr_basic0 rfl) ?_
  refine go_nil ?_
  refine go_seq ?_
  refine go_cut (G := Value × List (BitVec 8)) [17] (fun ⟨v, _⟩ => [v]) [(0, .slice sa l.length cap), (4, .int .i64 a), (5, u8 c), (15, .slice sx fr.length cx)]
    (fun ⟨v, ly⟩ w' => By w' v ly ∧ ly.length ≤ 2000 ∧ Ext w4 w') ?_ ?_
  · have h4 : kd.toNat % 4 = 0 ∨ kd.toNat % 4 = 1 ∨ kd.toNat % 4 = 2 ∨ kd.toNat % 4 = 3 := by omega
    rcases h4 with h4 | h4 | h4 | h4
    · repeat (first | refine sp ?_ | (refine is_load ?_; refine ld ?_) | (refine is_store ?_; refine sr ?_) | (refine is_alloc ?_; refine al ?_) | (refine is_box ?_; refine bx ?_) | (refine isl_load ?_; refine ldl ?_) | (refine isl_store ?_; refine srl ?_) | (refine isl_alloc ?_; refine all' ?_) | (refine isl_box ?_; refine bxl ?_))
      refine go_p rfl (pr_sl (lo := k + 1) (hi := fr.length) (by decide) rfl ⟨_, _, rfl, by simp⟩ rfl (by omega) (by omega)) ?_
      refine go_call rfl rfl (c_Join _ _ _ f3 w4 (by omega) hy4 (hcuts1.ext hx4)) ?_
      rintro r w5 ⟨ho5, hx5⟩
      repeat (first | refine sp ?_ | (refine is_load ?_; refine ld ?_) | (refine is_store ?_; refine sr ?_) | (refine is_alloc ?_; refine al ?_) | (refine is_box ?_; refine bx ?_) | (refine isl_load ?_; refine ldl ?_) | (refine isl_store ?_; refine srl ?_) | (refine isl_alloc ?_; refine all' ?_) | (refine isl_box ?_; refine bxl ?_))
      exact go_stop (G := Value × List (BitVec 8)) (r, f1 ++ [c] ++ f3) rfl ⟨rfl, rfl, rfl, rfl, trivial⟩ ⟨ho5.by, by rw [List.length_append]; omega, hx5⟩ trivial
    · repeat (first | refine sp ?_ | (refine is_load ?_; refine ld ?_) | (refine is_store ?_; refine sr ?_) | (refine is_alloc ?_; refine al ?_) | (refine is_box ?_; refine bx ?_) | (refine isl_load ?_; refine ldl ?_) | (refine isl_store ?_; refine srl ?_) | (refine isl_alloc ?_; refine all' ?_) | (refine isl_box ?_; refine bxl ?_) | refine dr Try.follows ?_)
      refine gol_p rfl rfl (pr_sl (lo := 0) (hi := k) (by decide) rfl rfl ⟨_, _, rfl, rfl⟩ (by omega) (by omega)) ?_
      repeat (first | refine sp ?_ | (refine is_load ?_; refine ld ?_) | (refine is_store ?_; refine sr ?_) | (refine is_alloc ?_; refine al ?_) | (refine is_box ?_; refine bx ?_) | (refine isl_load ?_; refine ldl ?_) | (refine isl_store ?_; refine srl ?_) | (refine isl_alloc ?_; refine all' ?_) | (refine isl_box ?_; refine bxl ?_) | refine dr Try.follows ?_)
      refine gol_p rfl rfl (pr_sl (lo := k + 1) (hi := fr.length) (by decide) rfl ⟨_, _, rfl, by simp⟩ rfl (by omega) (by omega)) ?_
      have hdw : Ext w4 (w4.drewN 1) := (Fr.refl _ _).drewN 1
      refine gol_call rfl rfl (c_Join _ _ f1 f3 (w4.drewN 1) (by omega) ((hcutk.ext hx4).ext hdw) ((hcuts1.ext hx4).ext hdw)) ?_
      rintro r w5 ⟨ho5, hx5⟩
      refine ⟨hdw.trans hx5, ?_⟩
      repeat (first | refine sp ?_ | (refine is_load ?_; refine ld ?_) | (refine is_store ?_; refine sr ?_) | (refine is_alloc ?_; refine al ?_) | (refine is_box ?_; refine bx ?_) | (refine isl_load ?_; refine ldl ?_) | (refine isl_store ?_; refine srl ?_) | (refine isl_alloc ?_; refine all' ?_) | (refine isl_box ?_; refine bxl ?_))
      exact go_stop (G := Value × List (BitVec 8)) (r, f1 ++ f3) rfl ⟨rfl, rfl, rfl, rfl, trivial⟩ ⟨ho5.by, by rw [List.length_append]; omega, hdw.trans hx5⟩ trivial
    · repeat (first | refine sp ?_ | (refine is_load ?_; refine ld ?_) | (refine is_store ?_; refine sr ?_) | (refine is_alloc ?_; refine al ?_) | (refine is_box ?_; refine bx ?_) | (refine isl_load ?_; refine ldl ?_) | (refine isl_store ?_; refine srl ?_) | (refine isl_alloc ?_; refine all' ?_) | (refine isl_box ?_; refine bxl ?_))
      refine go_p rfl (pr_sl (lo := k) (hi := fr.length) (by decide) rfl ⟨_, _, rfl, rfl⟩ rfl (by omega) (by omega)) ?_
      refine go_call rfl rfl (c_Join _ _ _ f2 w4 (by omega) hy4 (hcuts.ext hx4)) ?_
      rintro r w5 ⟨ho5, hx5⟩
      repeat (first | refine sp ?_ | (refine is_load ?_; refine ld ?_) | (refine is_store ?_; refine sr ?_) | (refine is_alloc ?_; refine al ?_) | (refine is_box ?_; refine bx ?_) | (refine isl_load ?_; refine ldl ?_) | (refine isl_store ?_; refine srl ?_) | (refine isl_alloc ?_; refine all' ?_) | (refine isl_box ?_; refine bxl ?_))
      exact go_stop (G := Value × List (BitVec 8)) (r, f1 ++ [c] ++ f2) rfl ⟨rfl, rfl, rfl, rfl, trivial⟩ ⟨ho5.by, by rw [List.length_append]; omega, hx5⟩ trivial
    · repeat (first | refine sp ?_ | (refine is_load ?_; refine ld ?_) | (refine is_store ?_; refine sr ?_) | (refine is_alloc ?_; refine al ?_) | (refine is_box ?_; refine bx ?_) | (refine isl_load ?_; refine ldl ?_) | (refine isl_store ?_; refine srl ?_) | (refine isl_alloc ?_; refine all' ?_) | (refine isl_box ?_; refine bxl ?_))
      refine go_lit (nb := w4.heap.size) rfl rfl rfl (by decide) (by decide) rfl ?_
      have hx5 : Ext w4 (w4.alloc (.cells #[u8 c] 5)) := (Fr.refl _ _).alloc _
      have hlt5 : By (w4.alloc (.cells #[u8 c] 5)) (.slice (some ⟨w4.heap.size, 0, none⟩) 1 1) [c] := by
        refine ⟨_, _, rfl, Nat.le_refl _, fun j q hj => ⟨_, _, rfl, ?_⟩⟩
        have := (At.new w4 [u8 c] 5).cell (i := j) (v := q) hj
        simpa using this
      refine go_call rfl rfl (c_Join _ _ fr [c] _ (by simp; omega) ((hboxx.ext hx4).ext hx5) hlt5) ?_
      rintro r w6 ⟨ho6, hx6⟩
      repeat (first | refine sp ?_ | (refine is_load ?_; refine ld ?_) | (refine is_store ?_; refine sr ?_) | (refine is_alloc ?_; refine al ?_) | (refine is_box ?_; refine bx ?_) | (refine isl_load ?_; refine ldl ?_) | (refine isl_store ?_; refine srl ?_) | (refine isl_alloc ?_; refine all' ?_) | (refine isl_box ?_; refine bxl ?_))
      exact go_stop (G := Value × List (BitVec 8)) (r, fr ++ [c]) rfl ⟨rfl, rfl, rfl, rfl, trivial⟩ ⟨ho6.by, by rw [List.length_append]; simp; omega, hx5.trans hx6⟩ trivial
  rintro ⟨u, ly⟩ w5 ⟨hy5, hyl, hx45⟩
  have hx5 := hx4'.trans hx45
  have hb5 := hb.ext hx5
  have hfr5 := (hboxx.ext hx4).ext hx45
  obtain ⟨su, ku, rfl, _, _⟩ := id hy5
  subst hF
  have hnx : nextP (tokB h ⟨x, y, lim, rev⟩ last) 0 = (payl h x y rev last, (tokB h ⟨x, y, lim, rev⟩ last).length, 0) := by
    have := nextP_frame [] [] (payl h x y rev last) (by have := payl_le h x y rev last; omega)
    simpa [tokB] using this
  repeat (first | refine sp ?_ | (refine is_load ?_; refine ld ?_) | (refine is_store ?_; refine sr ?_) | (refine is_alloc ?_; refine al ?_) | (refine is_box ?_; refine bx ?_) | (refine isl_load ?_; refine ldl ?_) | (refine isl_store ?_; refine srl ?_) | (refine isl_alloc ?_; refine all' ?_) | (refine isl_box ?_; refine bxl ?_))
  refine go_call rfl rfl (c_refNext _ _ 0 w5 (by omega) hfr5 (by omega)) ?_
  rintro r w6 ⟨p, rfl, hop, hx6⟩
  rw [hnx] at hop ⊢
  simp only at hop ⊢
  have hpl1 := payl_le h x y rev last
  have hpl2 := payl_len h x y rev last
  generalize payl h x y rev last = m at *
  have hs5 := hx5.size
  have hs6 := hx6.size
  obtain ⟨g, cp, C, rfl, hg, hat, hc1, hc2, hc3⟩ := hop.block (by omega)
  repeat (first | refine sp ?_ | (refine is_load ?_; refine ld ?_) | (refine is_store ?_; refine sr ?_) | (refine is_alloc ?_; refine al ?_) | (refine is_box ?_; refine bx ?_) | (refine isl_load ?_; refine ldl ?_) | (refine isl_store ?_; refine srl ?_) | (refine isl_alloc ?_; refine all' ?_) | (refine isl_box ?_; refine bxl ?_))
  refine go_call rfl rfl (c_ModB a m.length w6 ha (by omega)) ?_
  rintro r w7 ⟨rfl, rfl⟩
  obtain ⟨i, hi⟩ : ∃ i : Nat, a % (m.length : Int) = i := ⟨_, (Int.toNat_of_nonneg (Int.emod_nonneg _ (by omega))).symm⟩
  have hil : i < m.length := by
    have := Int.emod_lt_of_pos a (show (0 : Int) < m.length by omega)
    omega
  rw [hi]
  repeat (first | refine sp ?_ | (refine is_load ?_; refine ld ?_) | (refine is_store ?_; refine sr ?_) | (refine is_alloc ?_; refine al ?_) | (refine is_box ?_; refine bx ?_) | (refine isl_load ?_; refine ldl ?_) | (refine isl_store ?_; refine srl ?_) | (refine isl_alloc ?_; refine all' ?_) | (refine isl_box ?_; refine bxl ?_))
  have hset : (m.map u8 ++ C).set (0 + i) (u8 c) = (m.set i c).map u8 ++ C := by
    rw [Nat.zero_add, List.set_append_left _ _ (by simpa using hil), List.map_set]
  rw [hset]
  have hm' : (m.set i c).length = m.length := List.length_set
  generalize m.set i c = m' at *
  refine go_name (F := fun w8 => By w8 (.slice (some ⟨g, 0, none⟩) m.length cp) m' ∧ Fr (fun b => b = g) w7 w8) ⟨?_, Fr.setRow (Fr.refl _ _) _ (Or.inl rfl)⟩ ?_
  · refine ⟨_, cp, by rw [hm'], by omega, fun j u hj => ⟨_, _, rfl, ?_⟩⟩
    have hj2 : (m'.map u8 ++ C)[j]? = some u := by
      rw [List.getElem?_append_left]
      · exact hj
      · exact (List.getElem?_eq_some_iff.1 hj).1
    have := (hat.setRow (m'.map u8 ++ C)).cell hj2
    simpa using this
  rintro w8 ⟨hp8, hf8⟩
  have hx58 : Ext w5 w8 := hx6.trans' hf8 fun b hb e => by omega
  have hb8 := hb5.ext hx58
  have hy8 := hy5.ext hx58
  refine go_call rfl rfl (c_refFrame _ l w8 (by omega) hb8) ?_
  rintro v9 w9 ⟨ho9, hx9⟩
  repeat (first | refine sp ?_ | (refine is_load ?_; refine ld ?_) | (refine is_store ?_; refine sr ?_) | (refine is_alloc ?_; refine al ?_) | (refine is_box ?_; refine bx ?_) | (refine isl_load ?_; refine ldl ?_) | (refine isl_store ?_; refine srl ?_) | (refine isl_alloc ?_; refine all' ?_) | (refine isl_box ?_; refine bxl ?_))
  refine go_call rfl rfl (c_refFrame _ m' w9 (by omega) (hp8.ext hx9)) ?_
  rintro v10 w10 ⟨ho10, hx10⟩
  have hx810 := hx9.trans hx10
  have hfl1 := frame_len l
  have hfl2 := frame_len m'
  have hb10 := hb8.ext hx810
  have hy10 := hy8.ext hx810
  obtain ⟨s9, k9, rfl, _, _⟩ := id ho9.by
  obtain ⟨s10, k10, rfl, _, _⟩ := id ho10.by
  repeat (first | refine sp ?_ | (refine is_load ?_; refine ld ?_) | (refine is_store ?_; refine sr ?_) | (refine is_alloc ?_; refine al ?_) | (refine is_box ?_; refine bx ?_) | (refine isl_load ?_; refine ldl ?_) | (refine isl_store ?_; refine srl ?_) | (refine isl_alloc ?_; refine all' ?_) | (refine isl_box ?_; refine bxl ?_))
  obtain ⟨vs, hvs⟩ : ∃ vs : List Value, [Value.slice sa l.length cap, .slice s9 (frame l).length k9, .slice su ly.length ku, .slice s10 (frame m').length k10] = vs := ⟨_, rfl⟩
  refine go_litG (nb := w10.heap.size) (l := vs) rfl (by rw [← hvs]; rfl) (by decide) (by decide) rfl ?_
  have hx11 : Ext w10 (w10.alloc (.cells vs.toArray 53)) := (Fr.refl _ _).alloc _
  have hrow : ∀ i, i < 4 → ∃ v z, vs[i]? = some v ∧ By (w10.alloc (.cells vs.toArray 53)) v z ∧ z.length ≤ 100000 := by
    intro i hi
    subst hvs
    obtain rfl | rfl | rfl | rfl : i = 0 ∨ i = 1 ∨ i = 2 ∨ i = 3 := by omega
    · exact ⟨_, l, rfl, hb10.ext hx11, by omega⟩
    · exact ⟨_, frame l, rfl, (ho9.by.ext hx10).ext hx11, by omega⟩
    · exact ⟨_, ly, rfl, hy10.ext hx11, by omega⟩
    · exact ⟨_, frame m', rfl, ho10.by.ext hx11, by omega⟩
  have hat11 := At.new w10 vs 53
  have hvl : vs.length = 4 := by rw [← hvs]; rfl
  generalize w10.alloc (.cells vs.toArray 53) = w11 at *
  have hx : Ext w w11 := (hx5.trans (hx58.trans hx810)).trans hx11
  generalize hbb : w10.heap.size = bb at *
  clear hvs
  repeat (first | refine sp ?_ | (refine is_load ?_; refine ld ?_) | (refine is_store ?_; refine sr ?_) | (refine is_alloc ?_; refine al ?_) | (refine is_box ?_; refine bx ?_) | (refine isl_load ?_; refine ldl ?_) | (refine isl_store ?_; refine srl ?_) | (refine isl_alloc ?_; refine all' ?_) | (refine isl_box ?_; refine bxl ?_))
  refine go_loop (G := Nat) [101] (fun i => [.int .i64 (i : Int)]) [(99, .slice (some ⟨bb, 0, none⟩) 4 4), (100, .int .i64 4)]
    (fun i w' => i ≤ 4 ∧ Ext w11 w') (fun i => 4 - i) 0 rfl ⟨rfl, rfl, trivial⟩ ⟨by omega, Fr.refl _ _⟩ ?_
  rintro i w12 ⟨hi, hx12⟩
  by_cases hlt : i < 4
  rotate_left
  · obtain rfl : i = 4 := by omega
    repeat (first | refine sp ?_ | (refine is_load ?_; refine ld ?_) | (refine is_store ?_; refine sr ?_) | (refine is_alloc ?_; refine al ?_) | (refine is_box ?_; refine bx ?_) | (refine isl_load ?_; refine ldl ?_) | (refine isl_store ?_; refine srl ?_) | (refine isl_alloc ?_; refine all' ?_) | (refine isl_box ?_; refine bxl ?_))
    refine go_call rfl rfl (c_awake25 _) ?_
    rintro r w13 ⟨rfl, hx13⟩
    repeat (first | refine sp ?_ | (refine is_load ?_; refine ld ?_) | (refine is_store ?_; refine sr ?_) | (refine is_alloc ?_; refine al ?_) | (refine is_box ?_; refine bx ?_) | (refine isl_load ?_; refine ldl ?_) | (refine isl_store ?_; refine srl ?_) | (refine isl_alloc ?_; refine all' ?_) | (refine isl_box ?_; refine bxl ?_))
    exact go_ret1 rfl rfl ⟨_, rfl, rfl, (hx.trans hx12).trans hx13⟩
  obtain ⟨v, z, hvi, hbz, hzl⟩ := hrow i hlt
  have hat12 := hat11.ext hx12
  have hbz12 := hbz.ext hx12
  have e0 : w12.cell? ⟨bb, 0 + i, none⟩ = some v := hat12.cell (by rw [Nat.zero_add]; exact hvi)
  obtain ⟨sz, kz, rfl, _, _⟩ := id hbz12
  repeat (first | refine sp ?_ | (refine is_load ?_; refine ld ?_) | (refine is_store ?_; refine sr ?_) | (refine is_alloc ?_; refine al ?_) | (refine is_box ?_; refine bx ?_) | (refine isl_load ?_; refine ldl ?_) | (refine isl_store ?_; refine srl ?_) | (refine isl_alloc ?_; refine all' ?_) | (refine isl_box ?_; refine bxl ?_))
  refine go_call rfl rfl (c_Parse _ z w12 (by omega) hbz12) ?_
  rintro _ w13 ⟨rfl, hx13⟩
  have hbz13 := hbz12.ext hx13
  generalize hzz : parP z = y2
  obtain ⟨er, h2, x2, y2, last2, rev2⟩ := y2
  rw [show parV (er, ⟨h2, x2, y2, last2, rev2⟩) = .tuple #[.int .u64 (h2 : Int), .agg ⟨[.int .i64 x2, .int .i64 y2, .int .i64 0, .bool rev2]⟩, .int .i64 last2, .int .i64 (er : Int)] from rfl]
  repeat (first | refine sp ?_ | (refine is_load ?_; refine ld ?_) | (refine is_store ?_; refine sr ?_) | (refine is_alloc ?_; refine al ?_) | (refine is_box ?_; refine bx ?_) | (refine isl_load ?_; refine ldl ?_) | (refine isl_store ?_; refine srl ?_) | (refine isl_alloc ?_; refine all' ?_) | (refine isl_box ?_; refine bxl ?_))
  refine go_name (F := fun w' => At w' w13.heap.size [.int .i64 x2, .int .i64 y2, .int .i64 0, .bool rev2] 52 ∧ Ext w13 w') ⟨by (repeat (first | assumption | (refine At.new' (by (first | omega | (simp; done) | (simp; omega))) _ _) | apply At.alloc | apply At.drewN | apply At.setRow | (apply At.setRow_neF; first | assumption | (apply Ne.symm; assumption) | omega) | (apply At.extF; assumption))), by (repeat (first | exact Fr.refl _ _ | assumption | apply Fr.drewN | apply Fr.alloc | (apply Fr.transF; assumption) | (refine Fr.setRow ?_ _ (by first | exact Or.inr (by (first | omega | (simp; done) | (simp; omega))) | (exact Or.inl (by first | assumption | (simp; done)))))))⟩ ?_
  rintro w14 ⟨hr14, hx14⟩
  refine go_call rfl rfl (c_refParse _ z w14 (by omega) (hbz13.ext hx14)) ?_
  rintro _ w15 ⟨rfl, hx15⟩
  rw [hzz]
  rw [show parV (er, ⟨h2, x2, y2, last2, rev2⟩) = .tuple #[.int .u64 (h2 : Int), .agg ⟨[.int .i64 x2, .int .i64 y2, .int .i64 0, .bool rev2]⟩, .int .i64 last2, .int .i64 (er : Int)] from rfl]
  have hr15 := hr14.ext hx15
  have hs15 := hr14.lt
  have hs14 := hx15.size
  repeat (first | refine sp ?_ | (refine is_load ?_; refine ld ?_) | (refine is_store ?_; refine sr ?_) | (refine is_alloc ?_; refine al ?_) | (refine is_box ?_; refine bx ?_) | (refine isl_load ?_; refine ldl ?_) | (refine isl_store ?_; refine srl ?_) | (refine isl_alloc ?_; refine all' ?_) | (refine isl_box ?_; refine bxl ?_))
  refine go_as 127 (u' := .bool false) rfl (by simp [eqL]) ?_
  repeat (first | refine sp ?_ | (refine is_load ?_; refine ld ?_) | (refine is_store ?_; refine sr ?_) | (refine is_alloc ?_; refine al ?_) | (refine is_box ?_; refine bx ?_) | (refine isl_load ?_; refine ldl ?_) | (refine isl_store ?_; refine srl ?_) | (refine isl_alloc ?_; refine all' ?_) | (refine isl_box ?_; refine bxl ?_))
  refine go_stop (G := Nat) (i + 1) rfl ⟨rfl, rfl, trivial⟩ ⟨hlt, ?_⟩ (by show 4 - (i + 1) < 4 - i; omega)
  exact ((hx12.trans hx13).trans (hx14.trans hx15)).trans (by (repeat (first | exact Fr.refl _ _ | assumption | apply Fr.drewN | apply Fr.alloc | (apply Fr.transF; assumption) | (refine Fr.setRow ?_ _ (by first | exact Or.inr (by (first | omega | (simp; done) | (simp; omega))) | (exact Or.inl (by first | assumption | (simp; done))))))))

end Go.Proofs.Yteghhalnpdikoaa

namespace Go.Proofs.Yteghhalnpdikoaa
open Go.Vc

/-- A list is made of new blocks. -/
theorem c_ListR (w : World) (lv : Value) (l : List (Int × Int)) (most : Nat) (hr : RdU w w.heap.size lv entC l) (he : InE l) (hlen : l.length ≤ 9223372036854775807) (hm : most ≤ 5000) :
    Calls Try.prog 12 [lv, .int .i64 (most : Int)].toArray w (Ret fun v w' => ∃ a, Rd w' w.heap.size v entC a ∧ OkL a most ∧ Ext w w') := by
  have hr0 := hr
  obtain ⟨sa, cap, rfl, hlc, _, _⟩ := hr0
  refine calls_go Try.func12 rfl Try.ntmps12 (Nat.le_of_ble_eq_true rfl) ?_
  repeat (first | refine sp ?_ | (refine is_load ?_; refine ld ?_) | (refine is_store ?_; refine sr ?_) | (refine is_alloc ?_; refine al ?_) | (refine is_box ?_; refine bx ?_) | (refine isl_load ?_; refine ldl ?_) | (refine isl_store ?_; refine srl ?_) | (refine isl_alloc ?_; refine all' ?_) | (refine isl_box ?_; refine bxl ?_) | refine dr Try.follows ?_)
  refine go_loop (G := Nat × Value × List (Int × Int)) [5, 6] (fun ⟨k, v, _⟩ => [v, .int .i64 (k : Int)]) [(0, .slice sa l.length cap), (1, .int .i64 (most : Int))]
    (fun ⟨k, v, a⟩ w' => k ≤ l.length ∧ k ≤ most ∧ Ext w w' ∧ Rd w' w.heap.size v entC a ∧ OkL a k)
    (fun g => l.length - g.1) (0, .slice none 0 0, []) rfl ⟨rfl, rfl, trivial⟩ ⟨by omega, by omega, by (repeat (first | exact Fr.refl _ _ | assumption | apply Fr.drewN | apply Fr.alloc | (apply Fr.transF; assumption) | (refine Fr.setRow ?_ _ (by first | exact Or.inr (by (first | omega | (simp; done) | (simp; omega))) | (exact Or.inl (by first | assumption | (simp; done))))))), Rd.nil w _ entC, ⟨by simp [Srt], (by intro e he; cases he), by simp⟩⟩ ?_
  rintro ⟨k, v, a⟩ w1 ⟨hk, hkm, hx1, ha, hok⟩
  by_cases hlt : k < l.length
  · by_cases hlt2 : k < most
    · obtain ⟨b, o, es, hbl, hcell⟩ := (hr.ext hx1).at (m := 2) (fun _ => rfl) (by omega) hlt
      subst es
      have hex := he _ (List.getElem_mem hlt)
      generalize l[k] = x at *
      repeat (first | refine sp ?_ | (refine is_load ?_; refine ld ?_) | (refine is_store ?_; refine sr ?_) | (refine is_alloc ?_; refine al ?_) | (refine is_box ?_; refine bx ?_) | (refine isl_load ?_; refine ldl ?_) | (refine isl_store ?_; refine srl ?_) | (refine isl_alloc ?_; refine all' ?_) | (refine isl_box ?_; refine bxl ?_) | refine dr Try.follows ?_)
      refine go_load (v := .agg (entC x).toArray) rfl rfl (ld_cells (m := 2) rfl (by decide) fun j u hj => by rw [addr_add]; exact hcell j u hj) ?_
      have hal := hok.len
      refine go_call rfl rfl (c_Insert w1 w1.heap.size v a x ha.up (Nat.le_refl _) (by omega)) ?_
      rintro v2 w2 ⟨ho2, hx2⟩
      repeat (first | refine sp ?_ | (refine is_load ?_; refine ld ?_) | (refine is_store ?_; refine sr ?_) | (refine is_alloc ?_; refine al ?_) | (refine is_box ?_; refine bx ?_) | (refine isl_load ?_; refine ldl ?_) | (refine isl_store ?_; refine srl ?_) | (refine isl_alloc ?_; refine all' ?_) | (refine isl_box ?_; refine bxl ?_) | refine dr Try.follows ?_)
      refine go_stop (G := Nat × Value × List (Int × Int)) (k + 1, v2, ins a x) rfl ⟨rfl, rfl, trivial⟩ ⟨hlt, hlt2, hx1.trans hx2, (OwnE.mono ho2 hx1.size).rd, ⟨ins_srt hok.srt, fun y hy => ?_, ?_⟩⟩ (by show l.length - (k + 1) < l.length - k; omega)
      · rcases insGo_mem hy with rfl | hy
        · exact hex
        · exact hok.ine y hy
      · have := insGo_len (e := x) a false
        simp at this
        unfold ins; omega
    · repeat (first | refine sp ?_ | (refine is_load ?_; refine ld ?_) | (refine is_store ?_; refine sr ?_) | (refine is_alloc ?_; refine al ?_) | (refine is_box ?_; refine bx ?_) | (refine isl_load ?_; refine ldl ?_) | (refine isl_store ?_; refine srl ?_) | (refine isl_alloc ?_; refine all' ?_) | (refine isl_box ?_; refine bxl ?_) | refine dr Try.follows ?_)
      exact go_ret1 rfl rfl ⟨_, rfl, a, ha, ⟨hok.srt, hok.ine, by have := hok.len; omega⟩, hx1⟩
  · repeat (first | refine sp ?_ | (refine is_load ?_; refine ld ?_) | (refine is_store ?_; refine sr ?_) | (refine is_alloc ?_; refine al ?_) | (refine is_box ?_; refine bx ?_) | (refine isl_load ?_; refine ldl ?_) | (refine isl_store ?_; refine srl ?_) | (refine isl_alloc ?_; refine all' ?_) | (refine isl_box ?_; refine bxl ?_) | refine dr Try.follows ?_)
    exact go_ret1 rfl rfl ⟨_, rfl, a, ha, ⟨hok.srt, hok.ine, by have := hok.len; omega⟩, hx1⟩

theorem rd_frs {α : Type} {w w1 w' : World} {lo : Nat} {v : Value} {enc : α → List Value} {xs : List α} {S : Nat → Prop} (h : Rd w lo v enc xs) (f1 : Ext w w1) (f : Fr S w1 w') (hS : ∀ b, lo ≤ b → b < w.heap.size → ¬ S b) : RdU w' w.heap.size v enc xs := by
  obtain ⟨sa, cap, e, hc, hr, hb⟩ := h
  by_cases hx : xs = []
  · exact ⟨sa, cap, e, hc, (by subst hx; intro j u hj; simp at hj), fun b o e hn => absurd hx hn⟩
  · exact ⟨sa, cap, e, hc, (hr.ext f1).fr f (fun b o e => hS b (hb b o e hx).1 (hb b o e hx).2), fun b o e hx => (hb b o e hx).2⟩

theorem by_frs {w w' : World} {v : Value} {l : List (BitVec 8)} {S : Nat → Prop} (h : By w v l) (f : Fr S w w') (hS : ∀ b, b < w.heap.size → ¬ S b) : By w' v l := by
  obtain ⟨sa, cap, e, hc, hr⟩ := h
  refine ⟨sa, cap, e, hc, fun j u hj => ?_⟩
  obtain ⟨b, o, e2, hcell⟩ := hr j u hj
  exact ⟨b, o, e2, f.cell hcell (hS b (cellB_lt hcell))⟩

theorem pgFin_bd (h : Nat) (q : Rq) (a : List (Int × Int)) : (pgFin h q a).ents.length ≤ a.length ∧ (pgFin h q a).tok.length ≤ 60 := by
  unfold pgFin
  split
  · exact ⟨Nat.le_refl _, by simp⟩
  · exact ⟨by simp; omega, (tokB_len _ _ _).2⟩
theorem pgOrd_len (q : Rq) (a : List (Int × Int)) : (pgOrd q a).length = a.length := by unfold pgOrd; split <;> simp
theorem pgSel_len (l : List (Int × Int)) (q : Rq) (st : Option Int) : (pgSel l q st).length ≤ l.length := by
  unfold pgSel
  split
  · exact rng_len _ _ _
  · split <;> exact rng_len _ _ _
theorem pgP_bd (l : List (Int × Int)) (h : Nat) (q : Rq) (tok : List (BitVec 8)) : (pgP l h q tok).ents.length ≤ l.length ∧ (pgP l h q tok).tok.length ≤ 60 := by
  have key : ∀ st, (pgFin h q (pgOrd q (pgSel l q st))).ents.length ≤ l.length ∧ (pgFin h q (pgOrd q (pgSel l q st))).tok.length ≤ 60 := fun st => by
    have h1 := pgFin_bd h q (pgOrd q (pgSel l q st))
    rw [pgOrd_len] at h1
    have h2 := pgSel_len l q st
    exact ⟨by omega, h1.2⟩
  unfold pgP
  split
  · simp
  split
  · exact key none
  split
  · simp
  split
  · simp
  · exact key _

theorem tmod_in {a : Int} (h : InK a) : InK (a.tmod 1000) := by
  unfold InK at *
  have h1 := Int.tmod_lt_of_pos a (show (0 : Int) < 1000 by decide)
  have h2 := Int.lt_tmod_of_pos a (show (0 : Int) < 1000 by decide)
  omega

set_option maxHeartbeats 8000000 in
theorem c_LawPages (rv : Value) (r : List (Int × Int)) (tilt : Int) (h o : Nat) (q : Rq) (last : Int) (tv : Value) (tok : List (BitVec 8)) (kd : BitVec 8) (w : World) (hr : Rd w 0 rv entC r) (hri : InE r) (hrl : r.length ≤ 9223372036854775807) (ht : 0 ≤ tilt ∧ tilt ≤ 18446744073709551615)
    (hh : h < 18446744073709551616) (ho : o < 18446744073709551616) (hq : q.ok) (hla : InK last) (htv : By w tv tok) (htl : tok.length ≤ 9223372036854775807) :
    Calls Try.prog 9 [rv, .int .u64 tilt, .int .u64 (h : Int), .int .u64 (o : Int), .agg ⟨q.cells⟩, .int .i64 last, tv, u8 kd].toArray w (Ret fun r w' => r = .bool true ∧ Ext w w') := by
  obtain ⟨sa0, ka0, rfl, _, _, _⟩ := id hr
  obtain ⟨st, kt, rfl, _, _⟩ := id htv
  obtain ⟨x, y, lim, rev⟩ := q
  simp only [Rq.cells]
  refine calls_go Try.func9 rfl Try.ntmps9 (Nat.le_of_ble_eq_true rfl) ?_
  repeat (first | refine sp ?_ | (refine is_load ?_; refine ld ?_) | (refine is_store ?_; refine sr ?_) | (refine is_alloc ?_; refine al ?_) | (refine is_box ?_; refine bx ?_) | (refine isl_load ?_; refine ldl ?_) | (refine isl_store ?_; refine srl ?_) | (refine isl_alloc ?_; refine all' ?_) | (refine isl_box ?_; refine bxl ?_))
  refine go_name (F := fun w1 => At w1 w.heap.size [.int .i64 x, .int .i64 y, .int .i64 lim, .bool rev] 52 ∧ Ext w w1 ∧ w.heap.size + 1 ≤ w1.heap.size) ⟨by (repeat (first | assumption | (refine At.new' (by (first | omega | (simp; done) | (simp; omega))) _ _) | apply At.alloc | apply At.drewN | apply At.setRow | (apply At.setRow_neF; first | assumption | (apply Ne.symm; assumption) | omega) | (apply At.extF; assumption))), by (repeat (first | exact Fr.refl _ _ | assumption | apply Fr.drewN | apply Fr.alloc | (apply Fr.transF; assumption) | (refine Fr.setRow ?_ _ (by first | exact Or.inr (by (first | omega | (simp; done) | (simp; omega))) | (exact Or.inl (by first | assumption | (simp; done))))))), by simp⟩ ?_
  rintro w1 ⟨hb1, hx1, hs1⟩
  refine go_call rfl rfl (c_ListR w1 _ r 100 (hr.up.ext hx1 |>.mono hx1.size) hri hrl (by omega)) ?_
  rintro v2 w2 ⟨a, hra, hok, hx2⟩
  obtain ⟨sa, ka, rfl, hka, _, _⟩ := id hra
  have hal := hok.len
  have hs2 := hx2.size
  repeat (first | refine sp ?_ | (refine is_load ?_; refine ld ?_) | (refine is_store ?_; refine sr ?_) | (refine is_alloc ?_; refine al ?_) | (refine is_box ?_; refine bx ?_) | (refine isl_load ?_; refine ldl ?_) | (refine isl_store ?_; refine srl ?_) | (refine isl_alloc ?_; refine all' ?_) | (refine isl_box ?_; refine bxl ?_))
  refine go_call rfl rfl (c_GrowT w2 w2 a 100 _ tilt 1 hra.up hok (by omega) (by omega) (by omega) ht (Fr.refl _ _)) ?_
  rintro _ w3 ⟨lo, p, qp, B, t, rfl, g3, hen, hsz, hre, _, _, hx3, _⟩
  repeat (first | refine sp ?_ | (refine is_load ?_; refine ld ?_) | (refine is_store ?_; refine sr ?_) | (refine is_alloc ?_; refine al ?_) | (refine is_box ?_; refine bx ?_) | (refine isl_load ?_; refine ldl ?_) | (refine isl_store ?_; refine srl ?_) | (refine isl_alloc ?_; refine all' ?_) | (refine isl_box ?_; refine bxl ?_))
  refine go_call rfl rfl (c_awake25 w3) ?_
  rintro _ w4 ⟨rfl, hx4⟩
  have g4 := g3.step hx4
  have hx24 : Ext w2 w4 := hx3.trans hx4
  have hx14 : Ext w1 w4 := hx2.trans hx24
  by_cases htk : 200 < tok.length
  · repeat (first | refine sp ?_ | (refine is_load ?_; refine ld ?_) | (refine is_store ?_; refine sr ?_) | (refine is_alloc ?_; refine al ?_) | (refine is_box ?_; refine bx ?_) | (refine isl_load ?_; refine ldl ?_) | (refine isl_store ?_; refine srl ?_) | (refine isl_alloc ?_; refine all' ?_) | (refine isl_box ?_; refine bxl ?_))
    refine go_call rfl rfl (c_awake25 w4) ?_
    rintro _ w5 ⟨rfl, hx5⟩
    repeat (first | refine sp ?_ | (refine is_load ?_; refine ld ?_) | (refine is_store ?_; refine sr ?_) | (refine is_alloc ?_; refine al ?_) | (refine is_box ?_; refine bx ?_) | (refine isl_load ?_; refine ldl ?_) | (refine isl_store ?_; refine srl ?_) | (refine isl_alloc ?_; refine all' ?_) | (refine isl_box ?_; refine bxl ?_))
    exact go_ret1 rfl rfl ⟨_, rfl, rfl, (hx1.trans hx14).trans hx5⟩
  repeat (first | refine sp ?_ | (refine is_load ?_; refine ld ?_) | (refine is_store ?_; refine sr ?_) | (refine is_alloc ?_; refine al ?_) | (refine is_box ?_; refine bx ?_) | (refine isl_load ?_; refine ldl ?_) | (refine isl_store ?_; refine srl ?_) | (refine isl_alloc ?_; refine all' ?_) | (refine isl_box ?_; refine bxl ?_))
  have hlof := g4.lof
  have hpf := g4.ar.fpp
  have hplo := hlof.1 p hpf
  refine go_loop (G := Nat × Rq × Int × AR) [21, 5] (fun ⟨k, _, z, _⟩ => [.int .i64 (k : Int), .int .i64 z]) [(2, .int .u64 (h : Int)), (3, .int .u64 (o : Int)), (6, .slice st tok.length kt), (7, u8 kd), (12, ptr w.heap.size), (17, .slice sa a.length ka), (18, ptr p), (19, .int .u32 (t.root : Int))]
    (fun ⟨k, q, z, A⟩ w' => k ≤ 2 ∧ q.ok ∧ InK z ∧ ArP w' lo p qp A ∧ InA A t ∧ At w' w.heap.size q.cells 52 ∧ Fr (fun b => b = p ∨ b = w.heap.size) w4 w') (fun g => 2 - g.1) (0, ⟨x, y, lim, rev⟩, last, B) rfl ⟨rfl, rfl, rfl, rfl, rfl, rfl, rfl, rfl, trivial⟩ ⟨by omega, hq, hla, g4.ar, g4.inA, hb1.ext hx14, Fr.refl _ _⟩ ?_
  rintro ⟨k, ⟨x, y, lim, rev⟩, z, A⟩ w5 ⟨hk, hq, hz, ha5, hi5, hb5, hf5⟩
  simp only [Rq.cells] at hb5
  by_cases hlt : k < 2
  rotate_left
  · repeat (first | refine sp ?_ | (refine is_load ?_; refine ld ?_) | (refine is_store ?_; refine sr ?_) | (refine is_alloc ?_; refine al ?_) | (refine is_box ?_; refine bx ?_) | (refine isl_load ?_; refine ldl ?_) | (refine isl_store ?_; refine srl ?_) | (refine isl_alloc ?_; refine all' ?_) | (refine isl_box ?_; refine bxl ?_))
    exact go_ret1 rfl rfl ⟨_, rfl, rfl, (hx1.trans hx14).trans' hf5 fun b hb e => by omega⟩
  have hra5 : RdU w5 w2.heap.size _ entC a := rd_frs hra hx24 hf5 fun b h1 h2 e => by have := hlof.2.2; omega
  have htv5 : By w5 (.slice st tok.length kt) tok := by_frs htv ((Fr.of_ext (hx1.trans hx14)).trans hf5) fun b hb e => by omega
  have hs45 := hf5.size
  have hs24 := hx24.size
  have hpl := ha5.lt p hpf
  repeat (first | refine sp ?_ | (refine is_load ?_; refine ld ?_) | (refine is_store ?_; refine sr ?_) | (refine is_alloc ?_; refine al ?_) | (refine is_box ?_; refine bx ?_) | (refine isl_load ?_; refine ldl ?_) | (refine isl_store ?_; refine srl ?_) | (refine isl_alloc ?_; refine all' ?_) | (refine isl_box ?_; refine bxl ?_))
  refine go_call rfl rfl (c_refToken h ⟨x, y, lim, rev⟩ z w5 hh hq hz) ?_
  rintro vt w6 ⟨ho6, hx6⟩
  have hb6 := hb5.ext hx6
  have hs6 := hx6.size
  refine go_p rfl (pr_basic0 rfl) ?_
  refine go_nil ?_
  refine go_seq ?_
  refine go_cut (G := Value × List (BitVec 8)) [22] (fun ⟨v, _⟩ => [v]) [(2, .int .u64 (h : Int)), (3, .int .u64 (o : Int)), (5, .int .i64 z), (6, .slice st tok.length kt), (7, u8 kd), (12, ptr w.heap.size), (17, .slice sa a.length ka), (18, ptr p), (19, .int .u32 (t.root : Int)), (21, .int .i64 (k : Int))]
    (fun ⟨v, ly⟩ w' => (∀ w'', Fr (fun b => b = p) w' w'' → By w'' v ly) ∧ ly.length ≤ 2000 ∧ Ext w6 w') ?_ ?_
  · have htl1 := tokB_len h ⟨x, y, lim, rev⟩ z
    have htl2 := tokB_len o ⟨x, y, lim, rev⟩ z
    have htl3 := tokB_len h ⟨x, y, 0, !rev⟩ z
    have hkl := kd.isLt
    obtain ⟨s6, k6, rfl, _, _⟩ := id ho6.by
    have hby6 := ho6.by
    have h6 : kd.toNat % 6 = 0 ∨ kd.toNat % 6 = 1 ∨ kd.toNat % 6 = 2 ∨ kd.toNat % 6 = 3 ∨ 3 < kd.toNat % 6 := by omega
    rcases h6 with h6 | h6 | h6 | h6 | h6
    · repeat (first | refine sp ?_ | (refine is_load ?_; refine ld ?_) | (refine is_store ?_; refine sr ?_) | (refine is_alloc ?_; refine al ?_) | (refine is_box ?_; refine bx ?_) | (refine isl_load ?_; refine ldl ?_) | (refine isl_store ?_; refine srl ?_) | (refine isl_alloc ?_; refine all' ?_) | (refine isl_box ?_; refine bxl ?_))
      exact go_stop (G := Value × List (BitVec 8)) (_, []) rfl ⟨rfl, rfl, rfl, rfl, rfl, rfl, rfl, rfl, rfl, rfl, trivial⟩ ⟨fun _ _ => By.nil _, by simp, Fr.refl _ _⟩ trivial
    · repeat (first | refine sp ?_ | (refine is_load ?_; refine ld ?_) | (refine is_store ?_; refine sr ?_) | (refine is_alloc ?_; refine al ?_) | (refine is_box ?_; refine bx ?_) | (refine isl_load ?_; refine ldl ?_) | (refine isl_store ?_; refine srl ?_) | (refine isl_alloc ?_; refine all' ?_) | (refine isl_box ?_; refine bxl ?_))
      exact go_stop (G := Value × List (BitVec 8)) (_, tok) rfl ⟨rfl, rfl, rfl, rfl, rfl, rfl, rfl, rfl, rfl, rfl, trivial⟩ ⟨fun w'' f => by_frs htv (((Fr.of_ext (hx1.trans hx14)).trans hf5).trans ((Fr.of_ext hx6).trans (f.mono fun b e => Or.inl e))) fun b hb e => by omega, by omega, Fr.refl _ _⟩ trivial
    · repeat (first | refine sp ?_ | (refine is_load ?_; refine ld ?_) | (refine is_store ?_; refine sr ?_) | (refine is_alloc ?_; refine al ?_) | (refine is_box ?_; refine bx ?_) | (refine isl_load ?_; refine ldl ?_) | (refine isl_store ?_; refine srl ?_) | (refine isl_alloc ?_; refine all' ?_) | (refine isl_box ?_; refine bxl ?_))
      refine go_call rfl rfl (c_refToken o ⟨x, y, lim, rev⟩ z w6 ho hq hz) ?_
      rintro v7 w7 ⟨ho7, hx7⟩
      repeat (first | refine sp ?_ | (refine is_load ?_; refine ld ?_) | (refine is_store ?_; refine sr ?_) | (refine is_alloc ?_; refine al ?_) | (refine is_box ?_; refine bx ?_) | (refine isl_load ?_; refine ldl ?_) | (refine isl_store ?_; refine srl ?_) | (refine isl_alloc ?_; refine all' ?_) | (refine isl_box ?_; refine bxl ?_))
      exact go_stop (G := Value × List (BitVec 8)) (v7, _) rfl ⟨rfl, rfl, rfl, rfl, rfl, rfl, rfl, rfl, rfl, rfl, trivial⟩ ⟨fun w'' f => (show OwnB _ _ _ _ from Own.fr ho7 f fun b hb e => by omega).by, by omega, hx7⟩ trivial
    · repeat (first | refine sp ?_ | (refine is_load ?_; refine ld ?_) | (refine is_store ?_; refine sr ?_) | (refine is_alloc ?_; refine al ?_) | (refine is_box ?_; refine bx ?_) | (refine isl_load ?_; refine ldl ?_) | (refine isl_store ?_; refine srl ?_) | (refine isl_alloc ?_; refine all' ?_) | (refine isl_box ?_; refine bxl ?_))
      refine go_call rfl rfl (c_refToken h ⟨x, y, 0, !rev⟩ z _ hh ⟨hq.1, hq.2.1, (by decide : InK 0)⟩ hz) ?_
      rintro v7 w7 ⟨ho7, hx7⟩
      repeat (first | refine sp ?_ | (refine is_load ?_; refine ld ?_) | (refine is_store ?_; refine sr ?_) | (refine is_alloc ?_; refine al ?_) | (refine is_box ?_; refine bx ?_) | (refine isl_load ?_; refine ldl ?_) | (refine isl_store ?_; refine srl ?_) | (refine isl_alloc ?_; refine all' ?_) | (refine isl_box ?_; refine bxl ?_))
      exact go_stop (G := Value × List (BitVec 8)) (v7, _) rfl ⟨rfl, rfl, rfl, rfl, rfl, rfl, rfl, rfl, rfl, rfl, trivial⟩ ⟨fun w'' f => (show OwnB _ _ _ _ from Own.fr ho7 f fun b hb e => by first | omega | (simp at hb; omega)).by, by omega, Fr.trans (by (repeat (first | exact Fr.refl _ _ | assumption | apply Fr.drewN | apply Fr.alloc | (apply Fr.transF; assumption) | (refine Fr.setRow ?_ _ (by first | exact Or.inr (by (first | omega | (simp; done) | (simp; omega))) | (exact Or.inl (by first | assumption | (simp; done)))))))) hx7⟩ trivial
    · repeat (first | refine sp ?_ | (refine is_load ?_; refine ld ?_) | (refine is_store ?_; refine sr ?_) | (refine is_alloc ?_; refine al ?_) | (refine is_box ?_; refine bx ?_) | (refine isl_load ?_; refine ldl ?_) | (refine isl_store ?_; refine srl ?_) | (refine isl_alloc ?_; refine all' ?_) | (refine isl_box ?_; refine bxl ?_))
      exact go_stop (G := Value × List (BitVec 8)) (_, _) rfl ⟨rfl, rfl, rfl, rfl, rfl, rfl, rfl, rfl, rfl, rfl, trivial⟩ ⟨fun w'' f => (show OwnB _ _ _ _ from Own.fr ho6 f fun b hb e => by omega).by, by omega, Fr.refl _ _⟩ trivial
  rintro ⟨u, ly⟩ w7 ⟨hyy, hyl, hx7⟩
  have hy7 := hyy w7 (Fr.refl _ _)
  have hx57 := hx6.trans hx7
  have ha7 := ha5.ext hx57
  have hb7 := hb5.ext hx57
  have hra7 := hra5.ext hx57
  have hs7 := hx57.size
  obtain ⟨su, ku, rfl, _, _⟩ := id hy7
  have hst := g4.srt
  have hie := g4.ine
  repeat (first | refine sp ?_ | (refine is_load ?_; refine ld ?_) | (refine is_store ?_; refine sr ?_) | (refine is_alloc ?_; refine al ?_) | (refine is_box ?_; refine bx ?_) | (refine isl_load ?_; refine ldl ?_) | (refine isl_store ?_; refine srl ?_) | (refine isl_alloc ?_; refine all' ?_) | (refine isl_box ?_; refine bxl ?_))
  refine go_call rfl rfl (c_Page w7 lo p qp A t h ⟨x, y, lim, rev⟩ _ ly ha7 hi5 hie hst (by omega) hh hq hy7 (by omega)) ?_
  rintro r8 w8 ⟨hpg, ⟨A8, n8, ha8, hR8⟩, hf8⟩
  rw [hen] at hpg
  have hi8 := hR8.inA hi5
  have hb8 := hb7.fr hf8 (by omega)
  have hy8 : By w8 _ ly := hyy w8 hf8
  have hs8 := hf8.size
  have hra8 := RdU.rd hra7 hf8 (by omega)
  obtain ⟨v1, v2, rfl, hv1, hv2⟩ := hpg
  repeat (first | refine sp ?_ | (refine is_load ?_; refine ld ?_) | (refine is_store ?_; refine sr ?_) | (refine is_alloc ?_; refine al ?_) | (refine is_box ?_; refine bx ?_) | (refine isl_load ?_; refine ldl ?_) | (refine isl_store ?_; refine srl ?_) | (refine isl_alloc ?_; refine all' ?_) | (refine isl_box ?_; refine bxl ?_))
  refine go_call rfl rfl (c_refPage w8 _ _ a h ⟨x, y, lim, rev⟩ _ ly hra8 (by omega) (by omega) hok.srt hok.ine hh hq hy8 (by omega)) ?_
  rintro r9 w9 ⟨⟨v3, v4, rfl, hv3, hv4⟩, hx9⟩
  have hbd := pgP_bd a h ⟨x, y, lim, rev⟩ ly
  generalize pgP a h ⟨x, y, lim, rev⟩ ly = Z at *
  obtain ⟨ze, zt, zr⟩ := Z
  simp only at hv1 hv2 hv3 hv4
  have hb9 := hb8.ext hx9
  have ha9 := ha8.ext hx9
  have hra9 := hra8.ext hx9
  have hzl : ze.length ≤ 1000000 := by have := hbd.1; simp only at this; omega
  have hztl : zt.length ≤ 1000000 := by have := hbd.2; simp only at this; omega
  repeat (first | refine sp ?_ | (refine is_load ?_; refine ld ?_) | (refine is_store ?_; refine sr ?_) | (refine is_alloc ?_; refine al ?_) | (refine is_box ?_; refine bx ?_) | (refine isl_load ?_; refine ldl ?_) | (refine isl_store ?_; refine srl ?_) | (refine isl_alloc ?_; refine all' ?_) | (refine isl_box ?_; refine bxl ?_))
  refine go_call rfl rfl (c_SameB w9 _ _ _ _ ze ze ((Own.rd hv1 rfl).up.ext hx9) (Own.rd hv3 rfl).up hzl hzl) ?_
  rintro _ w10 ⟨rfl, hx10⟩
  rw [show eqB ze ze = true from decide_eq_true rfl]
  repeat (first | refine sp ?_ | (refine is_load ?_; refine ld ?_) | (refine is_store ?_; refine sr ?_) | (refine is_alloc ?_; refine al ?_) | (refine is_box ?_; refine bx ?_) | (refine isl_load ?_; refine ldl ?_) | (refine isl_store ?_; refine srl ?_) | (refine isl_alloc ?_; refine all' ?_) | (refine isl_box ?_; refine bxl ?_))
  refine go_call rfl rfl (c_Same _ _ zt zt w10 (by omega) ((hv2.by.ext hx9).ext hx10) (hv4.by.ext hx10)) ?_
  rintro _ w11 ⟨rfl, hx11⟩
  rw [sameB_self']
  have hx911 := hx10.trans hx11
  have hb11 := hb9.ext hx911
  have ha11 := ha9.ext hx911
  have hra11 := hra9.ext hx911
  have f511 : Fr (fun b => b = p) w5 w11 := ((Fr.of_ext hx57).trans hf8).trans (Fr.of_ext (hx9.trans hx911))
  repeat (first | refine sp ?_ | (refine is_load ?_; refine ld ?_) | (refine is_store ?_; refine sr ?_) | (refine is_alloc ?_; refine al ?_) | (refine is_box ?_; refine bx ?_) | (refine isl_load ?_; refine ldl ?_) | (refine isl_store ?_; refine srl ?_) | (refine isl_alloc ?_; refine all' ?_) | (refine isl_box ?_; refine bxl ?_))
  refine go_call rfl rfl (c_ModB lim 12 w11 hq.2.2 (by omega)) ?_
  rintro _ w12 ⟨rfl, rfl⟩
  have hm1 := Int.emod_nonneg lim (show (12 : Int) ≠ 0 by omega)
  have hm2 := Int.emod_lt_of_pos lim (show (0 : Int) < 12 by omega)
  generalize lim % 12 = m at *
  repeat (first | refine sp ?_ | (refine is_load ?_; refine ld ?_) | (refine is_store ?_; refine sr ?_) | (refine is_alloc ?_; refine al ?_) | (refine is_box ?_; refine bx ?_) | (refine isl_load ?_; refine ldl ?_) | (refine isl_store ?_; refine srl ?_) | (refine isl_alloc ?_; refine all' ?_) | (refine isl_box ?_; refine bxl ?_))
  refine go_name (F := fun w' => At w' w.heap.size [.int .i64 x, .int .i64 y, .int .i64 (1 + m), .bool rev] 52 ∧ Fr (fun b => b = w.heap.size) w12 w') ⟨hb11.setRow _, Fr.setRow (Fr.refl _ _) _ (Or.inl rfl)⟩ ?_
  rintro w13 ⟨hb13, hf13⟩
  have ha13 : ArP w13 lo p qp A8 := ha11.fr hf13 fun b hb e => by have := hlof.1 b hb; have := hlof.2.2; omega
  have f513 : Fr (fun b => b = p ∨ b = w.heap.size) w5 w13 := (f511.mono fun b e => Or.inl e).trans (hf13.mono fun b e => Or.inr e)
  have hra13 : RdU w13 w2.heap.size _ entC a := rd_frs hra hx24 (hf5.trans f513) fun b h1 h2 e => by have := hlof.2.2; omega
  clear hb11 hra11 ha11
  refine go_cut (G := Int × Int) [] (fun _ => []) [(2, .int .u64 (h : Int)), (3, .int .u64 (o : Int)), (5, .int .i64 z), (6, .slice st tok.length kt), (7, u8 kd), (12, ptr w.heap.size), (17, .slice sa a.length ka), (18, ptr p), (19, .int .u32 (t.root : Int)), (21, .int .i64 (k : Int))]
    (fun ⟨x', y'⟩ w' => InK x' ∧ InK y' ∧ At w' w.heap.size [.int .i64 x', .int .i64 y', .int .i64 (1 + m), .bool rev] 52 ∧ Fr (fun b => b = w.heap.size) w13 w') ?_ ?_
  · by_cases hxy : y < x
    · repeat (first | refine sp ?_ | (refine is_load ?_; refine ld ?_) | (refine is_store ?_; refine sr ?_) | (refine is_alloc ?_; refine al ?_) | (refine is_box ?_; refine bx ?_) | (refine isl_load ?_; refine ldl ?_) | (refine isl_store ?_; refine srl ?_) | (refine isl_alloc ?_; refine all' ?_) | (refine isl_box ?_; refine bxl ?_))
      exact go_stop (G := Int × Int) (y, x) rfl ⟨rfl, rfl, rfl, rfl, rfl, rfl, rfl, rfl, rfl, rfl, trivial⟩ ⟨hq.2.1, hq.1, by (repeat (first | assumption | (refine At.new' (by (first | omega | (simp; done) | (simp; omega))) _ _) | apply At.alloc | apply At.drewN | apply At.setRow | (apply At.setRow_neF; first | assumption | (apply Ne.symm; assumption) | omega) | (apply At.extF; assumption))), by (repeat (first | exact Fr.refl _ _ | assumption | apply Fr.drewN | apply Fr.alloc | (apply Fr.transF; assumption) | (refine Fr.setRow ?_ _ (by first | exact Or.inr (by (first | omega | (simp; done) | (simp; omega))) | (exact Or.inl (by first | assumption | (simp; done)))))))⟩ trivial
    · repeat (first | refine sp ?_ | (refine is_load ?_; refine ld ?_) | (refine is_store ?_; refine sr ?_) | (refine is_alloc ?_; refine al ?_) | (refine is_box ?_; refine bx ?_) | (refine isl_load ?_; refine ldl ?_) | (refine isl_store ?_; refine srl ?_) | (refine isl_alloc ?_; refine all' ?_) | (refine isl_box ?_; refine bxl ?_))
      exact go_stop (G := Int × Int) (x, y) rfl ⟨rfl, rfl, rfl, rfl, rfl, rfl, rfl, rfl, rfl, rfl, trivial⟩ ⟨hq.1, hq.2.1, hb13, Fr.refl _ _⟩ trivial
  rintro ⟨x', y'⟩ w14 ⟨hx', hy', hb14, hf14⟩
  have ha14 : ArP w14 lo p qp A8 := ha13.fr hf14 fun b hb e => by have := hlof.1 b hb; have := hlof.2.2; omega
  have f514 : Fr (fun b => b = p ∨ b = w.heap.size) w5 w14 := f513.trans (hf14.mono fun b e => Or.inr e)
  have hra14 : RdU w14 w2.heap.size _ entC a := rd_frs hra hx24 (hf5.trans f514) fun b h1 h2 e => by have := hlof.2.2; omega
  have hmk : InK (1 + m) := ⟨by omega, by omega⟩
  by_cases ha0 : a.length = 0
  · repeat (first | refine sp ?_ | (refine is_load ?_; refine ld ?_) | (refine is_store ?_; refine sr ?_) | (refine is_alloc ?_; refine al ?_) | (refine is_box ?_; refine bx ?_) | (refine isl_load ?_; refine ldl ?_) | (refine isl_store ?_; refine srl ?_) | (refine isl_alloc ?_; refine all' ?_) | (refine isl_box ?_; refine bxl ?_))
    exact go_stop (G := Nat × Rq × Int × AR) (k + 1, ⟨x', y', 1 + m, rev⟩, z, A8) rfl ⟨rfl, rfl, rfl, rfl, rfl, rfl, rfl, rfl, trivial⟩ ⟨hlt, ⟨hx', hy', hmk⟩, hz, ha14, hi8, hb14, hf5.trans f514⟩ (by show 2 - (k + 1) < 2 - k; omega)
  · repeat (first | refine sp ?_ | (refine is_load ?_; refine ld ?_) | (refine is_store ?_; refine sr ?_) | (refine is_alloc ?_; refine al ?_) | (refine is_box ?_; refine bx ?_) | (refine isl_load ?_; refine ldl ?_) | (refine isl_store ?_; refine srl ?_) | (refine isl_alloc ?_; refine all' ?_) | (refine isl_box ?_; refine bxl ?_))
    refine go_call rfl rfl (c_ModB (z.tmod 1000) a.length w14 (tmod_in hz) (by omega)) ?_
    rintro _ w15 ⟨rfl, rfl⟩
    obtain ⟨i, hi⟩ : ∃ i : Nat, z.tmod 1000 % (a.length : Int) = i := ⟨_, (Int.toNat_of_nonneg (Int.emod_nonneg _ (by omega))).symm⟩
    have hil : i < a.length := by
      have := Int.emod_lt_of_pos (z.tmod 1000) (show (0 : Int) < a.length by omega)
      omega
    rw [hi]
    obtain ⟨bb, oo, e, hbl, hcell⟩ := hra14.at (m := 2) (fun _ => rfl) (by omega) hil
    subst e
    have e0 := hcell 0 (.int .i64 a[i].1) rfl
    have hka := (hok.ine _ (List.getElem_mem hil)).1
    generalize a[i] = en at *
    repeat (first | refine sp ?_ | (refine is_load ?_; refine ld ?_) | (refine is_store ?_; refine sr ?_) | (refine is_alloc ?_; refine al ?_) | (refine is_box ?_; refine bx ?_) | (refine isl_load ?_; refine ldl ?_) | (refine isl_store ?_; refine srl ?_) | (refine isl_alloc ?_; refine all' ?_) | (refine isl_box ?_; refine bxl ?_))
    exact go_stop (G := Nat × Rq × Int × AR) (k + 1, ⟨x', y', 1 + m, rev⟩, en.1, A8) rfl ⟨rfl, rfl, rfl, rfl, rfl, rfl, rfl, rfl, trivial⟩ ⟨hlt, ⟨hx', hy', hmk⟩, hka, ha14, hi8, hb14, hf5.trans f514⟩ (by show 2 - (k + 1) < 2 - k; omega)

end Go.Proofs.Yteghhalnpdikoaa
