/-
  The nearest keys.
-/
import Derived.Test.YteghhalnpdikoaaTa
import Derived.Test.YteghhalnpdikoaaRk
import Derived.Test.YteghhalnpdikoaaFx
set_option linter.unusedVariables false
namespace Go.Proofs.Yteghhalnpdikoaa
open Go.Vc

theorem c_entry (k v : Int) (l r : Nat) (a b c d : Int) (w : World) :
    Calls Try.prog 110 [.agg ⟨[.int .i64 k, .int .i64 v, .int .u32 (l : Int), .int .u32 (r : Int), .int .i64 a, .int .i64 b, .int .i64 c, .int .i64 d]⟩].toArray w (Ret fun u w' => u = .agg ⟨entC (k, v)⟩ ∧ Ext w w') := by
  refine calls_go Try.func110 rfl Try.ntmps110 (Nat.le_of_ble_eq_true rfl) ?_
  repeat (first | refine sp ?_ | (refine is_load ?_; refine ld ?_) | (refine is_store ?_; refine sr ?_) | (refine is_alloc ?_; refine al ?_) | (refine is_box ?_; refine bx ?_) | (refine isl_load ?_; refine ldl ?_) | (refine isl_store ?_; refine srl ?_) | (refine isl_alloc ?_; refine all' ?_) | (refine isl_box ?_; refine bxl ?_) | refine dr Try.follows ?_)
  exact go_ret1 rfl ⟨_, rfl, Ld.run (ld_part (by (repeat (first | assumption | (refine At.new' (by (first | omega | (simp; done) | (simp; omega))) _ _) | apply At.alloc | apply At.drewN | apply At.setRow | (apply At.setRow_neF; first | assumption | (apply Ne.symm; assumption) | omega) | (apply At.extF; assumption)))) rfl rfl)⟩ ⟨_, rfl, rfl, by (repeat (first | exact Fr.refl _ _ | assumption | apply Fr.drewN | apply Fr.alloc | (apply Fr.transF; assumption) | (refine Fr.setRow ?_ _ (by first | exact Or.inr (by (first | omega | (simp; done) | (simp; omega))) | (exact Or.inl (by first | assumption | (simp; done)))))))⟩

/-- What a function value answers; it reads what was there, and changes nothing. -/
def Adm (w : World) (p : Nat) (f : FuncId) (cs : List Value) (P : Int → Bool) : Prop :=
  ∀ (k : Int) (w' : World), Fr (fun b => b = p ∨ w.heap.size ≤ b) w w' → Calls Try.prog f (.int .i64 k :: cs).toArray w' (Ret fun r w'' => r = .bool (P k) ∧ w'' = w')

def pK (P : Int → Bool) (e : Int × Int) : Bool := P e.1

theorem head_or {α : Type} : ∀ (a b : List α), (a ++ b).head? = a.head?.or b.head?
  | [], b => by simp
  | x :: a, b => by simp
theorem last_or {α : Type} (a b : List α) : (a ++ b).getLast? = b.getLast?.or a.getLast? := by rw [List.getLast?_append]
theorem or_assoc' {α : Type} (a b c : Option α) : (a.or b).or c = a.or (b.or c) := by cases a <;> rfl
theorem or_none' {α : Type} (a : Option α) : a.or none = a := by cases a <;> rfl
theorem some_or' {α : Type} (x : α) (a : Option α) : (some x).or a = some x := rfl

set_option maxHeartbeats 4000000 in
theorem c_greatest (w : World) (lo p : Nat) (q : AP) (A : AR) (t : Tr) (f : FuncId) [Enters Try.prog f] (cs : List Value) (P : Int → Bool) (hP : Adm w p f cs P) (hm : ∀ a b, a ≤ b → P b = true → P a = true) (ha : ArP w lo p q A) (hi : InA A t) (he : InE t.ents) (ho : Srt t.ents) (hs : t.sz ≤ 1000000) :
    Calls Try.prog 105 [ptr p, .int .u32 (t.root : Int), .func (.func f) #[] cs.toArray].toArray w (Ret (RdR w lo p q A t.ht (entV (t.ents.filter (pK P)).getLast?))) := by
  refine calls_go Try.func105 rfl Try.ntmps105 (Nat.le_of_ble_eq_true rfl) ?_
  have hpl := ha.lt p ha.fpp
  repeat (first | refine sp ?_ | (refine is_load ?_; refine ld ?_) | (refine is_store ?_; refine sr ?_) | (refine is_alloc ?_; refine al ?_) | (refine is_box ?_; refine bx ?_) | (refine isl_load ?_; refine ldl ?_) | (refine isl_store ?_; refine srl ?_) | (refine isl_alloc ?_; refine all' ?_) | (refine isl_box ?_; refine bxl ?_) | refine dr Try.follows ?_)
  refine go_loop (G := Tr × Option (Int × Int) × AR) [10, 9] (fun ⟨t', o, _⟩ => [.int .u32 (t'.root : Int), .bool o.isSome]) [(0, ptr p), (2, .func (.func f) #[] cs.toArray), (6, ptr w.heap.size), (8, ptr (w.heap.size + 1))]
    (fun ⟨t', o, B⟩ w' => InA B t' ∧ InE t'.ents ∧ Srt t'.ents ∧ ((t'.ents.filter (pK P)).getLast?).or o = (t.ents.filter (pK P)).getLast? ∧ t'.sz ≤ t.sz ∧ t'.ht ≤ t.ht ∧ Rds A B (t.ht - t'.ht) ∧ ArP w' lo p q B ∧ Fr (fun b => b = p) w w' ∧ At w' w.heap.size [.int .i64 0, .int .i64 0] 72 ∧ At w' (w.heap.size + 1) (entC (o.getD (0, 0))) 72 ∧ w.heap.size + 2 ≤ w'.heap.size)
    (fun g => g.1.sz) (t, none, A) rfl ⟨rfl, rfl, rfl, rfl, trivial⟩
    ⟨hi, he, ho, by simp, Nat.le_refl _, Nat.le_refl _, Rds.refl _ _, ha.ext (by (repeat (first | exact Fr.refl _ _ | assumption | apply Fr.drewN | apply Fr.alloc | (apply Fr.transF; assumption) | (refine Fr.setRow ?_ _ (by first | exact Or.inr (by (first | omega | (simp; done) | (simp; omega))) | (exact Or.inl (by first | assumption | (simp; done)))))))), by (repeat (first | exact Fr.refl _ _ | assumption | apply Fr.drewN | apply Fr.alloc | (apply Fr.transF; assumption) | (refine Fr.setRow ?_ _ (by first | exact Or.inr (by (first | omega | (simp; done) | (simp; omega))) | (exact Or.inl (by first | assumption | (simp; done))))))), by (repeat (first | assumption | (refine At.new' (by (first | omega | (simp; done) | (simp; omega))) _ _) | apply At.alloc | apply At.drewN | apply At.setRow | (apply At.setRow_neF; first | assumption | (apply Ne.symm; assumption) | omega) | (apply At.extF; assumption))), by show At _ _ [.int .i64 0, .int .i64 0] _; (repeat (first | assumption | (refine At.new' (by (first | omega | (simp; done) | (simp; omega))) _ _) | apply At.alloc | apply At.drewN | apply At.setRow | (apply At.setRow_neF; first | assumption | (apply Ne.symm; assumption) | omega) | (apply At.extF; assumption))), by simp⟩ ?_
  rintro ⟨t', o, B⟩ w1 ⟨hi1, he1, ho1, hsum, hn1, hht, hB, ha1, hF1, hat0, hat1, hl1⟩
  unfold entC at hat1
  cases t' with
  | nil =>
    have hfin : o = (t.ents.filter (pK P)).getLast? := by rw [← hsum]; rfl
    repeat (first | refine sp ?_ | (refine is_load ?_; refine ld ?_) | (refine is_store ?_; refine sr ?_) | (refine is_alloc ?_; refine al ?_) | (refine is_box ?_; refine bx ?_) | (refine isl_load ?_; refine ldl ?_) | (refine isl_store ?_; refine srl ?_) | (refine isl_alloc ?_; refine all' ?_) | (refine isl_box ?_; refine bxl ?_))
    refine go_ret2 rfl ⟨_, rfl, Ld.run (ld_part (by (repeat (first | assumption | (refine At.new' (by (first | omega | (simp; done) | (simp; omega))) _ _) | apply At.alloc | apply At.drewN | apply At.setRow | (apply At.setRow_neF; first | assumption | (apply Ne.symm; assumption) | omega) | (apply At.extF; assumption)))) rfl rfl)⟩ rfl ⟨_, rfl, RdR.fin ?_ ha ha1 (hB.mono (by omega)) hF1 (by (repeat (first | exact Fr.refl _ _ | assumption | apply Fr.drewN | apply Fr.alloc | (apply Fr.transF; assumption) | (refine Fr.setRow ?_ _ (by first | exact Or.inr (by (first | omega | (simp; done) | (simp; omega))) | (exact Or.inl (by first | assumption | (simp; done))))))))⟩
    rw [← hfin]; rfl
  | nd i l k v r =>
    have h0 : i ≠ 0 := by have := hi1.1; omega
    refine go_as 10 (u' := .int .u32 (i : Int)) rfl rfl ?_
    obtain ⟨hel, her, hkk, hvv⟩ := he1.nd
    obtain ⟨hol, hor, hlt, hgt⟩ := ho1.nd
    have hsz : (Tr.nd i l k v r).sz = l.sz + 1 + r.sz := rfl
    have hhd : (Tr.nd i l k v r).ht = 1 + max l.ht r.ht := rfl
    have hen : (Tr.nd i l k v r).ents = l.ents ++ (k, v) :: r.ents := rfl
    obtain ⟨hri, hrl, hrr⟩ := hi1.roots ha1.wf
    rw [hen, List.filter_append, List.filter_cons] at hsum
    repeat (first | refine sp ?_ | (refine is_load ?_; refine ld ?_) | (refine is_store ?_; refine sr ?_) | (refine is_alloc ?_; refine al ?_) | (refine is_box ?_; refine bx ?_) | (refine isl_load ?_; refine ldl ?_) | (refine isl_store ?_; refine srl ?_) | (refine isl_alloc ?_; refine all' ?_) | (refine isl_box ?_; refine bxl ?_) | refine dr Try.follows ?_)
    refine go_call rfl rfl (p_Node _ lo p q B i ha1 hri) ?_
    rintro _ w2 ⟨rfl, ha2, hf2⟩
    rw [show B.used i = true from hi1.2.1, hi1.nodeL he1 (by omega)]
    generalize smy (Tr.nd i l k v r).vals = S
    have hl2 := hf2.size
    have hi2 := hi1.read i
    have hat2 := hat0.fr hf2 (by omega)
    have hat3 := hat1.fr hf2 (by omega)
    have hB2 := hB.trans (Rds.read B i)
    repeat (first | refine sp ?_ | (refine is_load ?_; refine ld ?_) | (refine is_store ?_; refine sr ?_) | (refine is_alloc ?_; refine al ?_) | (refine is_box ?_; refine bx ?_) | (refine isl_load ?_; refine ldl ?_) | (refine isl_store ?_; refine srl ?_) | (refine isl_alloc ?_; refine all' ?_) | (refine isl_box ?_; refine bxl ?_) | refine dr Try.follows ?_)
    refine go_name (F := fun w3 => At w3 w2.heap.size [.int .i64 k, .int .i64 v, .int .u32 (l.root : Int), .int .u32 (r.root : Int), .int .i64 S.n, .int .i64 S.s, .int .i64 S.mn, .int .i64 S.mx] 102 ∧ At w3 w.heap.size [.int .i64 0, .int .i64 0] 72 ∧ At w3 (w.heap.size + 1) [.int .i64 (o.getD (0, 0)).1, .int .i64 (o.getD (0, 0)).2] 72 ∧ ArP w3 lo p q (B.read i) ∧ Fr (fun b => b = p) w w3 ∧ w2.heap.size + 1 ≤ w3.heap.size) ⟨by (repeat (first | assumption | (refine At.new' (by (first | omega | (simp; done) | (simp; omega))) _ _) | apply At.alloc | apply At.drewN | apply At.setRow | (apply At.setRow_neF; first | assumption | (apply Ne.symm; assumption) | omega) | (apply At.extF; assumption))), by (repeat (first | assumption | (refine At.new' (by (first | omega | (simp; done) | (simp; omega))) _ _) | apply At.alloc | apply At.drewN | apply At.setRow | (apply At.setRow_neF; first | assumption | (apply Ne.symm; assumption) | omega) | (apply At.extF; assumption))), by (repeat (first | assumption | (refine At.new' (by (first | omega | (simp; done) | (simp; omega))) _ _) | apply At.alloc | apply At.drewN | apply At.setRow | (apply At.setRow_neF; first | assumption | (apply Ne.symm; assumption) | omega) | (apply At.extF; assumption))), ha2.ext (by (repeat (first | exact Fr.refl _ _ | assumption | apply Fr.drewN | apply Fr.alloc | (apply Fr.transF; assumption) | (refine Fr.setRow ?_ _ (by first | exact Or.inr (by (first | omega | (simp; done) | (simp; omega))) | (exact Or.inl (by first | assumption | (simp; done)))))))), (hF1.trans hf2).trans (by (repeat (first | exact Fr.refl _ _ | assumption | apply Fr.drewN | apply Fr.alloc | (apply Fr.transF; assumption) | (refine Fr.setRow ?_ _ (by first | exact Or.inr (by (first | omega | (simp; done) | (simp; omega))) | (exact Or.inl (by first | assumption | (simp; done)))))))), by simp⟩ ?_
    rintro w3 ⟨hb1, hb2, hb3, ha3, hF3, hl3⟩
    refine go_callv (cs := cs) rfl rfl rfl (hP k w3 (hF3.mono fun b e => Or.inl e)) ?_
    rintro _ w3 ⟨rfl, rfl⟩
    cases hc : P k with
    | false =>
      rw [if_neg (by unfold pK; rw [hc]; decide)] at hsum
      repeat (first | refine sp ?_ | (refine is_load ?_; refine ld ?_) | (refine is_store ?_; refine sr ?_) | (refine is_alloc ?_; refine al ?_) | (refine is_box ?_; refine bx ?_) | (refine isl_load ?_; refine ldl ?_) | (refine isl_store ?_; refine srl ?_) | (refine isl_alloc ?_; refine all' ?_) | (refine isl_box ?_; refine bxl ?_) | refine dr Try.follows ?_)
      refine go_stop (G := Tr × Option (Int × Int) × AR) (l, o, B.read i) rfl ⟨rfl, rfl, rfl, rfl, trivial⟩ ⟨hi2.2.2.2.1, hel, hol, ?_, by omega, by omega, hB2.mono (by omega), ha3, hF3, by (repeat (first | assumption | (refine At.new' (by (first | omega | (simp; done) | (simp; omega))) _ _) | apply At.alloc | apply At.drewN | apply At.setRow | (apply At.setRow_neF; first | assumption | (apply Ne.symm; assumption) | omega) | (apply At.extF; assumption))), by (repeat (first | assumption | (refine At.new' (by (first | omega | (simp; done) | (simp; omega))) _ _) | apply At.alloc | apply At.drewN | apply At.setRow | (apply At.setRow_neF; first | assumption | (apply Ne.symm; assumption) | omega) | (apply At.extF; assumption))), by omega⟩ (by show l.sz < l.sz + 1 + r.sz; omega)
      have hnil : r.ents.filter (pK P) = [] := List.filter_eq_nil_iff.2 fun e he h2 => by
        have h1 := hgt e he
        have := hm k e.1 (by omega) h2
        rw [hc] at this; cases this
      rw [hnil, List.append_nil] at hsum
      exact hsum
    | true =>
      rw [if_pos (by unfold pK; exact hc)] at hsum
      repeat (first | refine sp ?_ | (refine is_load ?_; refine ld ?_) | (refine is_store ?_; refine sr ?_) | (refine is_alloc ?_; refine al ?_) | (refine is_box ?_; refine bx ?_) | (refine isl_load ?_; refine ldl ?_) | (refine isl_store ?_; refine srl ?_) | (refine isl_alloc ?_; refine all' ?_) | (refine isl_box ?_; refine bxl ?_) | refine dr Try.follows ?_)
      refine go_call rfl rfl (c_entry k v l.root r.root S.n S.s S.mn S.mx w3) ?_
      rintro _ w4 ⟨rfl, hx4⟩
      have hc1 := hb1.ext hx4
      have hc2 := hb2.ext hx4
      have hc3 := hb3.ext hx4
      have ha4 := ha3.ext hx4
      have hF4 := hF3.trans (Fr.of_ext hx4)
      have hl4 := hx4.size
      unfold entC
      repeat (first | refine sp ?_ | (refine is_load ?_; refine ld ?_) | (refine is_store ?_; refine sr ?_) | (refine is_alloc ?_; refine al ?_) | (refine is_box ?_; refine bx ?_) | (refine isl_load ?_; refine ldl ?_) | (refine isl_store ?_; refine srl ?_) | (refine isl_alloc ?_; refine all' ?_) | (refine isl_box ?_; refine bxl ?_) | refine dr Try.follows ?_)
      refine go_stop (G := Tr × Option (Int × Int) × AR) (r, some (k, v), B.read i) rfl ⟨rfl, rfl, rfl, rfl, trivial⟩ ⟨hi2.2.2.2.2, her, hor, ?_, by omega, by omega, hB2.mono (by omega), ha4.fr (S := fun b => w.heap.size ≤ b) (by (repeat (first | exact Fr.refl _ _ | assumption | apply Fr.drewN | apply Fr.alloc | (apply Fr.transF; assumption) | (refine Fr.setRow ?_ _ (by first | exact Or.inr (by (first | omega | (simp; done) | (simp; omega))) | (exact Or.inl (by first | assumption | (simp; done)))))))) (fun b hb e => by have := ha.lt b hb; omega), hF4.trans' (S' := fun b => w.heap.size ≤ b) (by (repeat (first | exact Fr.refl _ _ | assumption | apply Fr.drewN | apply Fr.alloc | (apply Fr.transF; assumption) | (refine Fr.setRow ?_ _ (by first | exact Or.inr (by (first | omega | (simp; done) | (simp; omega))) | (exact Or.inl (by first | assumption | (simp; done)))))))) (fun b hb e => by omega), by (repeat (first | assumption | (refine At.new' (by (first | omega | (simp; done) | (simp; omega))) _ _) | apply At.alloc | apply At.drewN | apply At.setRow | (apply At.setRow_neF; first | assumption | (apply Ne.symm; assumption) | omega) | (apply At.extF; assumption))), by show At _ _ [.int .i64 k, .int .i64 v] _; (repeat (first | assumption | (refine At.new' (by (first | omega | (simp; done) | (simp; omega))) _ _) | apply At.alloc | apply At.drewN | apply At.setRow | (apply At.setRow_neF; first | assumption | (apply Ne.symm; assumption) | omega) | (apply At.extF; assumption))), by simp; omega⟩ (by show r.sz < l.sz + 1 + r.sz; omega)
      rw [last_or, List.getLast?_cons] at hsum
      rw [← hsum]
      cases (r.ents.filter (pK P)).getLast? <;> rfl

/-! ### The functions -/

set_option maxHeartbeats 1000000 in
theorem c_Floor (w : World) (lo p : Nat) (q : AP) (A : AR) (t : Tr) (x : Int) (ha : ArP w lo p q A) (hi : InA A t) (he : InE t.ents) (ho : Srt t.ents) (hs : t.sz ≤ 1000000) :
    Calls Try.prog 100 [ptr p, .int .u32 (t.root : Int), .int .i64 x].toArray w (Ret (RdR w lo p q A t.ht (entV (t.ents.filter (pK (fun k => decide (k ≤ x)))).getLast?))) := by
  have hpl := ha.lt p ha.fpp
  have hAdm : Adm ((w.alloc (.cells [Value.int .i64 x].toArray 2)).alloc (.cells [Value.int .i64 0, .int .i64 0].toArray 72)) p 106 [ptr w.heap.size] (fun k => decide (k ≤ x)) := by
    intro k w' hf
    have hat : At w' w.heap.size [.int .i64 x] 2 := At.fr (w := (w.alloc (.cells [Value.int .i64 x].toArray 2)).alloc (.cells [Value.int .i64 0, .int .i64 0].toArray 72)) (by (repeat (first | assumption | (refine At.new' (by (first | omega | (simp; done) | (simp; omega))) _ _) | apply At.alloc | apply At.drewN | apply At.setRow | (apply At.setRow_neF; first | assumption | (apply Ne.symm; assumption) | omega) | (apply At.extF; assumption)))) hf (by simp; omega)
    refine calls_go Try.func106 rfl Try.ntmps106 (Nat.le_of_ble_eq_true rfl) ?_
    by_cases hk : k ≤ x
    · repeat (first | refine sp ?_ | (refine is_load ?_; refine ld ?_) | (refine is_store ?_; refine sr ?_) | (refine is_alloc ?_; refine al ?_) | (refine is_box ?_; refine bx ?_) | (refine isl_load ?_; refine ldl ?_) | (refine isl_store ?_; refine srl ?_) | (refine isl_alloc ?_; refine all' ?_) | (refine isl_box ?_; refine bxl ?_) | refine dr Try.follows ?_)
      exact go_ret1 rfl rfl ⟨_, rfl, by simp [hk], rfl⟩
    · repeat (first | refine sp ?_ | (refine is_load ?_; refine ld ?_) | (refine is_store ?_; refine sr ?_) | (refine is_alloc ?_; refine al ?_) | (refine is_box ?_; refine bx ?_) | (refine isl_load ?_; refine ldl ?_) | (refine isl_store ?_; refine srl ?_) | (refine isl_alloc ?_; refine all' ?_) | (refine isl_box ?_; refine bxl ?_) | refine dr Try.follows ?_)
      exact go_ret1 rfl rfl ⟨_, rfl, by simp [hk], rfl⟩
  refine calls_go Try.func100 rfl Try.ntmps100 (Nat.le_of_ble_eq_true rfl) ?_
  repeat (first | refine sp ?_ | (refine is_load ?_; refine ld ?_) | (refine is_store ?_; refine sr ?_) | (refine is_alloc ?_; refine al ?_) | (refine is_box ?_; refine bx ?_) | (refine isl_load ?_; refine ldl ?_) | (refine isl_store ?_; refine srl ?_) | (refine isl_alloc ?_; refine all' ?_) | (refine isl_box ?_; refine bxl ?_) | refine dr Try.follows ?_)
  refine go_p rfl (pr_makeFunc (cs := [.tmp 5]) (vs := [ptr w.heap.size]) rfl) ?_
  repeat (first | refine sp ?_ | (refine is_load ?_; refine ld ?_) | (refine is_store ?_; refine sr ?_) | (refine is_alloc ?_; refine al ?_) | (refine is_box ?_; refine bx ?_) | (refine isl_load ?_; refine ldl ?_) | (refine isl_store ?_; refine srl ?_) | (refine isl_alloc ?_; refine all' ?_) | (refine isl_box ?_; refine bxl ?_) | refine dr Try.follows ?_)
  refine go_call rfl rfl (c_greatest _ lo p q A t 106 [ptr w.heap.size] _ hAdm (fun a b h1 h2 => by simp at h2 ⊢; omega) (ha.ext (by (repeat (first | exact Fr.refl _ _ | assumption | apply Fr.drewN | apply Fr.alloc | (apply Fr.transF; assumption) | (refine Fr.setRow ?_ _ (by first | exact Or.inr (by (first | omega | (simp; done) | (simp; omega))) | (exact Or.inl (by first | assumption | (simp; done))))))))) hi he ho hs) ?_
  rintro _ w1 ⟨rfl, B, ha1, hB, hf1⟩
  have hF1 : Fr (fun b => b = p) w w1 := Fr.trans (by (repeat (first | exact Fr.refl _ _ | assumption | apply Fr.drewN | apply Fr.alloc | (apply Fr.transF; assumption) | (refine Fr.setRow ?_ _ (by first | exact Or.inr (by (first | omega | (simp; done) | (simp; omega))) | (exact Or.inl (by first | assumption | (simp; done)))))))) hf1
  have hret : At w1 (w.heap.size + 1) [.int .i64 0, .int .i64 0] 72 := At.fr (w := (w.alloc (.cells [Value.int .i64 x].toArray 2)).alloc (.cells [Value.int .i64 0, .int .i64 0].toArray 72)) (by (repeat (first | assumption | (refine At.new' (by (first | omega | (simp; done) | (simp; omega))) _ _) | apply At.alloc | apply At.drewN | apply At.setRow | (apply At.setRow_neF; first | assumption | (apply Ne.symm; assumption) | omega) | (apply At.extF; assumption)))) hf1 (by omega)
  generalize (t.ents.filter (pK (fun k => decide (k ≤ x)))).getLast? = o
  unfold entV
  repeat (first | refine sp ?_ | (refine is_load ?_; refine ld ?_) | (refine is_store ?_; refine sr ?_) | (refine is_alloc ?_; refine al ?_) | (refine is_box ?_; refine bx ?_) | (refine isl_load ?_; refine ldl ?_) | (refine isl_store ?_; refine srl ?_) | (refine isl_alloc ?_; refine all' ?_) | (refine isl_box ?_; refine bxl ?_) | refine dr Try.follows ?_)
  exact go_ret2 rfl ⟨_, rfl, Ld.run (ld_part (by (repeat (first | assumption | (refine At.new' (by (first | omega | (simp; done) | (simp; omega))) _ _) | apply At.alloc | apply At.drewN | apply At.setRow | (apply At.setRow_neF; first | assumption | (apply Ne.symm; assumption) | omega) | (apply At.extF; assumption)))) rfl rfl)⟩ rfl ⟨_, rfl, RdR.fin rfl ha ha1 hB hF1 (by (repeat (first | exact Fr.refl _ _ | assumption | apply Fr.drewN | apply Fr.alloc | (apply Fr.transF; assumption) | (refine Fr.setRow ?_ _ (by first | exact Or.inr (by (first | omega | (simp; done) | (simp; omega))) | (exact Or.inl (by first | assumption | (simp; done))))))))⟩

set_option maxHeartbeats 1000000 in
theorem c_Below (w : World) (lo p : Nat) (q : AP) (A : AR) (t : Tr) (x : Int) (ha : ArP w lo p q A) (hi : InA A t) (he : InE t.ents) (ho : Srt t.ents) (hs : t.sz ≤ 1000000) :
    Calls Try.prog 101 [ptr p, .int .u32 (t.root : Int), .int .i64 x].toArray w (Ret (RdR w lo p q A t.ht (entV (t.ents.filter (pK (fun k => decide (k < x)))).getLast?))) := by
  have hpl := ha.lt p ha.fpp
  have hAdm : Adm ((w.alloc (.cells [Value.int .i64 x].toArray 2)).alloc (.cells [Value.int .i64 0, .int .i64 0].toArray 72)) p 107 [ptr w.heap.size] (fun k => decide (k < x)) := by
    intro k w' hf
    have hat : At w' w.heap.size [.int .i64 x] 2 := At.fr (w := (w.alloc (.cells [Value.int .i64 x].toArray 2)).alloc (.cells [Value.int .i64 0, .int .i64 0].toArray 72)) (by (repeat (first | assumption | (refine At.new' (by (first | omega | (simp; done) | (simp; omega))) _ _) | apply At.alloc | apply At.drewN | apply At.setRow | (apply At.setRow_neF; first | assumption | (apply Ne.symm; assumption) | omega) | (apply At.extF; assumption)))) hf (by simp; omega)
    refine calls_go Try.func107 rfl Try.ntmps107 (Nat.le_of_ble_eq_true rfl) ?_
    by_cases hk : k < x
    · repeat (first | refine sp ?_ | (refine is_load ?_; refine ld ?_) | (refine is_store ?_; refine sr ?_) | (refine is_alloc ?_; refine al ?_) | (refine is_box ?_; refine bx ?_) | (refine isl_load ?_; refine ldl ?_) | (refine isl_store ?_; refine srl ?_) | (refine isl_alloc ?_; refine all' ?_) | (refine isl_box ?_; refine bxl ?_) | refine dr Try.follows ?_)
      exact go_ret1 rfl rfl ⟨_, rfl, by simp [hk], rfl⟩
    · repeat (first | refine sp ?_ | (refine is_load ?_; refine ld ?_) | (refine is_store ?_; refine sr ?_) | (refine is_alloc ?_; refine al ?_) | (refine is_box ?_; refine bx ?_) | (refine isl_load ?_; refine ldl ?_) | (refine isl_store ?_; refine srl ?_) | (refine isl_alloc ?_; refine all' ?_) | (refine isl_box ?_; refine bxl ?_) | refine dr Try.follows ?_)
      exact go_ret1 rfl rfl ⟨_, rfl, by simp [hk], rfl⟩
  refine calls_go Try.func101 rfl Try.ntmps101 (Nat.le_of_ble_eq_true rfl) ?_
  repeat (first | refine sp ?_ | (refine is_load ?_; refine ld ?_) | (refine is_store ?_; refine sr ?_) | (refine is_alloc ?_; refine al ?_) | (refine is_box ?_; refine bx ?_) | (refine isl_load ?_; refine ldl ?_) | (refine isl_store ?_; refine srl ?_) | (refine isl_alloc ?_; refine all' ?_) | (refine isl_box ?_; refine bxl ?_) | refine dr Try.follows ?_)
  refine go_p rfl (pr_makeFunc (cs := [.tmp 5]) (vs := [ptr w.heap.size]) rfl) ?_
  repeat (first | refine sp ?_ | (refine is_load ?_; refine ld ?_) | (refine is_store ?_; refine sr ?_) | (refine is_alloc ?_; refine al ?_) | (refine is_box ?_; refine bx ?_) | (refine isl_load ?_; refine ldl ?_) | (refine isl_store ?_; refine srl ?_) | (refine isl_alloc ?_; refine all' ?_) | (refine isl_box ?_; refine bxl ?_) | refine dr Try.follows ?_)
  refine go_call rfl rfl (c_greatest _ lo p q A t 107 [ptr w.heap.size] _ hAdm (fun a b h1 h2 => by simp at h2 ⊢; omega) (ha.ext (by (repeat (first | exact Fr.refl _ _ | assumption | apply Fr.drewN | apply Fr.alloc | (apply Fr.transF; assumption) | (refine Fr.setRow ?_ _ (by first | exact Or.inr (by (first | omega | (simp; done) | (simp; omega))) | (exact Or.inl (by first | assumption | (simp; done))))))))) hi he ho hs) ?_
  rintro _ w1 ⟨rfl, B, ha1, hB, hf1⟩
  have hF1 : Fr (fun b => b = p) w w1 := Fr.trans (by (repeat (first | exact Fr.refl _ _ | assumption | apply Fr.drewN | apply Fr.alloc | (apply Fr.transF; assumption) | (refine Fr.setRow ?_ _ (by first | exact Or.inr (by (first | omega | (simp; done) | (simp; omega))) | (exact Or.inl (by first | assumption | (simp; done)))))))) hf1
  have hret : At w1 (w.heap.size + 1) [.int .i64 0, .int .i64 0] 72 := At.fr (w := (w.alloc (.cells [Value.int .i64 x].toArray 2)).alloc (.cells [Value.int .i64 0, .int .i64 0].toArray 72)) (by (repeat (first | assumption | (refine At.new' (by (first | omega | (simp; done) | (simp; omega))) _ _) | apply At.alloc | apply At.drewN | apply At.setRow | (apply At.setRow_neF; first | assumption | (apply Ne.symm; assumption) | omega) | (apply At.extF; assumption)))) hf1 (by omega)
  generalize (t.ents.filter (pK (fun k => decide (k < x)))).getLast? = o
  unfold entV
  repeat (first | refine sp ?_ | (refine is_load ?_; refine ld ?_) | (refine is_store ?_; refine sr ?_) | (refine is_alloc ?_; refine al ?_) | (refine is_box ?_; refine bx ?_) | (refine isl_load ?_; refine ldl ?_) | (refine isl_store ?_; refine srl ?_) | (refine isl_alloc ?_; refine all' ?_) | (refine isl_box ?_; refine bxl ?_) | refine dr Try.follows ?_)
  exact go_ret2 rfl ⟨_, rfl, Ld.run (ld_part (by (repeat (first | assumption | (refine At.new' (by (first | omega | (simp; done) | (simp; omega))) _ _) | apply At.alloc | apply At.drewN | apply At.setRow | (apply At.setRow_neF; first | assumption | (apply Ne.symm; assumption) | omega) | (apply At.extF; assumption)))) rfl rfl)⟩ rfl ⟨_, rfl, RdR.fin rfl ha ha1 hB hF1 (by (repeat (first | exact Fr.refl _ _ | assumption | apply Fr.drewN | apply Fr.alloc | (apply Fr.transF; assumption) | (refine Fr.setRow ?_ _ (by first | exact Or.inr (by (first | omega | (simp; done) | (simp; omega))) | (exact Or.inl (by first | assumption | (simp; done))))))))⟩

end Go.Proofs.Yteghhalnpdikoaa
