/-
  The nearest keys.
-/
import Derived.Test.YtgafapifpoinlaaTa
import Derived.Test.YtgafapifpoinlaaRk
import Derived.Test.YtgafapifpoinlaaFx
set_option linter.unusedVariables false
namespace Go.Proofs.Ytgafapifpoinlaa
open Go.Vc

theorem c_entry (k v : Int) (l r : Nat) (a b c d : Int) (w : World) :
    Calls Try.prog 88 [.agg ⟨[.int .i64 k, .int .i64 v, .int .u32 (l : Int), .int .u32 (r : Int), .int .i64 a, .int .i64 b, .int .i64 c, .int .i64 d]⟩].toArray w (Ret fun u w' => u = .agg ⟨entC (k, v)⟩ ∧ Ext w w') := by
  refine calls_go Try.func88 rfl Try.ntmps88 (Nat.le_of_ble_eq_true rfl) ?_
  repeat (first | refine sp ?_ | (refine is_load ?_; refine ld ?_) | (refine is_store ?_; refine sr ?_) | (refine is_alloc ?_; refine al ?_) | (refine is_box ?_; refine bx ?_) | (refine isl_load ?_; refine ldl ?_) | (refine isl_store ?_; refine srl ?_) | (refine isl_alloc ?_; refine all' ?_) | (refine isl_box ?_; refine bxl ?_) | refine dr Try.follows ?_)
  exact go_ret1 rfl ⟨_, rfl, Ld.run (ld_part (by (repeat (first | assumption | (refine At.new' (by (first | omega | (simp; done) | (simp; omega))) _ _) | apply At.alloc | apply At.drewN | apply At.setRow | (apply At.setRow_neF; first | assumption | (apply Ne.symm; assumption) | omega) | (apply At.extF; assumption)))) rfl rfl)⟩ ⟨_, rfl, rfl, by (repeat (first | exact Fr.refl _ _ | assumption | apply Fr.drewN | apply Fr.alloc | (apply Fr.transF; assumption) | (refine Fr.setRow ?_ _ (by first | exact Or.inr (by (first | omega | (simp; done) | (simp; omega))) | (exact Or.inl (by first | assumption | (simp; done)))))))⟩

/-- What a function value answers; it reads what was there, and changes nothing. -/
def Adm (w : World) (p : Nat) (f : FuncId) (cs : List Value) (P : Int → Bool) : Prop :=
  ∀ (k : Int) (w' : World), Fr (fun b => b = p ∨ w.heap.size ≤ b) w w' → Calls Try.prog f (.int .i64 k :: cs).toArray w' (Ret fun r w'' => r = .bool (P k) ∧ w'' = w')

def pK (P : Int → Bool) (e : Int × Int) : Bool := P e.1

theorem head_or {α : Type} : ∀ (a b : List α), (a ++ b).head? = a.head?.or b.head?
  | [], b => by simp
  | x :: a, b => by simp
theorem last_or {α : Type} (a b : List α) : (a ++ b).getLast? = b.getLast?.or a.getLast? := by rw [List.getLast?_append]
theorem or_assoc' {α : Type} (a b c : Option α) : (a.or b).or c = a.or (b.or c) := by cases a <;> rfl
theorem or_none' {α : Type} (a : Option α) : a.or none = a := by cases a <;> rfl
theorem some_or' {α : Type} (x : α) (a : Option α) : (some x).or a = some x := rfl

set_option maxHeartbeats 4000000 in
theorem c_greatest (w : World) (lo p : Nat) (q : AP) (A : AR) (t : Tr) (f : FuncId) [Enters Try.prog f] (cs : List Value) (P : Int → Bool) (hP : Adm w p f cs P) (hm : ∀ a b, a ≤ b → P b = true → P a = true) (ha : ArP w lo p q A) (hi : InA A t) (he : InE t.ents) (ho : Srt t.ents) (hs : t.sz ≤ 1000000) :
    Calls Try.prog 59 [ptr p, .int .u32 (t.root : Int), .func (.func f) #[] cs.toArray].toArray w (Ret (RdR w lo p q A t.ht (entV (t.ents.filter (pK P)).getLast?))) := by
  refine calls_go Try.func59 rfl Try.ntmps59 (Nat.le_of_ble_eq_true rfl) ?_
  have hpl := ha.lt p ha.fpp
  repeat (first | refine sp ?_ | (refine is_load ?_; refine ld ?_) | (refine is_store ?_; refine sr ?_) | (refine is_alloc ?_; refine al ?_) | (refine is_box ?_; refine bx ?_) | (refine isl_load ?_; refine ldl ?_) | (refine isl_store ?_; refine srl ?_) | (refine isl_alloc ?_; refine all' ?_) | (refine isl_box ?_; refine bxl ?_) | refine dr Try.follows ?_)
  refine go_loop (G := Tr × Option (Int × Int) × AR) [10, 9] (fun ⟨t', o, _⟩ => [.int .u32 (t'.root : Int), .bool o.isSome]) [(0, ptr p), (2, .func (.func f) #[] cs.toArray), (6, ptr w.heap.size), (8, ptr (w.heap.size + 1))]
    (fun ⟨t', o, B⟩ w' => InA B t' ∧ InE t'.ents ∧ Srt t'.ents ∧ ((t'.ents.filter (pK P)).getLast?).or o = (t.ents.filter (pK P)).getLast? ∧ t'.sz ≤ t.sz ∧ t'.ht ≤ t.ht ∧ Rds A B (t.ht - t'.ht) ∧ ArP w' lo p q B ∧ Fr (fun b => b = p) w w' ∧ At w' w.heap.size [.int .i64 0, .int .i64 0] 35 ∧ At w' (w.heap.size + 1) (entC (o.getD (0, 0))) 35 ∧ w.heap.size + 2 ≤ w'.heap.size)
    (fun g => g.1.sz) (t, none, A) rfl ⟨rfl, rfl, rfl, rfl, trivial⟩
    ⟨hi, he, ho, by simp, Nat.le_refl _, Nat.le_refl _, Rds.refl _ _, ha.ext (by (repeat (first | exact Fr.refl _ _ | assumption | apply Fr.drewN | apply Fr.alloc | (apply Fr.transF; assumption) | (refine Fr.setRow ?_ _ (by first | exact Or.inr (by (first | omega | (simp; done) | (simp; omega))) | (exact Or.inl (by first | assumption | (simp; done)))))))), by (repeat (first | exact Fr.refl _ _ | assumption | apply Fr.drewN | apply Fr.alloc | (apply Fr.transF; assumption) | (refine Fr.setRow ?_ _ (by first | exact Or.inr (by (first | omega | (simp; done) | (simp; omega))) | (exact Or.inl (by first | assumption | (simp; done))))))), by (repeat (first | assumption | (refine At.new' (by (first | omega | (simp; done) | (simp; omega))) _ _) | apply At.alloc | apply At.drewN | apply At.setRow | (apply At.setRow_neF; first | assumption | (apply Ne.symm; assumption) | omega) | (apply At.extF; assumption))), by show At _ _ [.int .i64 0, .int .i64 0] _; (repeat (first | assumption | (refine At.new' (by (first | omega | (simp; done) | (simp; omega))) _ _) | apply At.alloc | apply At.drewN | apply At.setRow | (apply At.setRow_neF; first | assumption | (apply Ne.symm; assumption) | omega) | (apply At.extF; assumption))), by simp⟩ ?_
  rintro ⟨t', o, B⟩ w1 ⟨hi1, he1, ho1, hsum, hn1, hht, hB, ha1, hF1, hat0, hat1, hl1⟩
  unfold entC at hat1
  cases t' with
  | nil =>
    have hfin : o = (t.ents.filter (pK P)).getLast? := by rw [← hsum]; rfl
    repeat (first | refine sp ?_ | (refine is_load ?_; refine ld ?_) | (refine is_store ?_; refine sr ?_) | (refine is_alloc ?_; refine al ?_) | (refine is_box ?_; refine bx ?_) | (refine isl_load ?_; refine ldl ?_) | (refine isl_store ?_; refine srl ?_) | (refine isl_alloc ?_; refine all' ?_) | (refine isl_box ?_; refine bxl ?_))
    refine go_ret2 rfl ⟨_, rfl, Ld.run (ld_part (by (repeat (first | assumption | (refine At.new' (by (first | omega | (simp; done) | (simp; omega))) _ _) | apply At.alloc | apply At.drewN | apply At.setRow | (apply At.setRow_neF; first | assumption | (apply Ne.symm; assumption) | omega) | (apply At.extF; assumption)))) rfl rfl)⟩ rfl ⟨_, rfl, RdR.fin ?_ ha ha1 (hB.mono (by omega)) hF1 (by (repeat (first | exact Fr.refl _ _ | assumption | apply Fr.drewN | apply Fr.alloc | (apply Fr.transF; assumption) | (refine Fr.setRow ?_ _ (by first | exact Or.inr (by (first | omega | (simp; done) | (simp; omega))) | (exact Or.inl (by first | assumption | (simp; done))))))))⟩
    rw [← hfin]; rfl
  | nd i l k v r =>
    have h0 : i ≠ 0 := by have := hi1.1; omega
    refine go_as 10 (u' := .int .u32 (i : Int)) rfl rfl ?_
    obtain ⟨hel, her, hkk, hvv⟩ := he1.nd
    obtain ⟨hol, hor, hlt, hgt⟩ := ho1.nd
    have hsz : (Tr.nd i l k v r).sz = l.sz + 1 + r.sz := rfl
    have hhd : (Tr.nd i l k v r).ht = 1 + max l.ht r.ht := rfl
    have hen : (Tr.nd i l k v r).ents = l.ents ++ (k, v) :: r.ents := rfl
    obtain ⟨hri, hrl, hrr⟩ := hi1.roots ha1.wf
    rw [hen, List.filter_append, List.filter_cons] at hsum
    repeat (first | refine sp ?_ | (refine is_load ?_; refine ld ?_) | (refine is_store ?_; refine sr ?_) | (refine is_alloc ?_; refine al ?_) | (refine is_box ?_; refine bx ?_) | (refine isl_load ?_; refine ldl ?_) | (refine isl_store ?_; refine srl ?_) | (refine isl_alloc ?_; refine all' ?_) | (refine isl_box ?_; refine bxl ?_) | refine dr Try.follows ?_)
    refine go_call rfl rfl (p_Node _ lo p q B i ha1 hri) ?_
    rintro _ w2 ⟨rfl, ha2, hf2⟩
    rw [show B.used i = true from hi1.2.1, hi1.nodeL he1 (by omega)]
    generalize smy (Tr.nd i l k v r).vals = S
    have hl2 := hf2.size
    have hi2 := hi1.read i
    have hat2 := hat0.fr hf2 (by omega)
    have hat3 := hat1.fr hf2 (by omega)
    have hB2 := hB.trans (Rds.read B i)
    repeat (first | refine sp ?_ | (refine is_load ?_; refine ld ?_) | (refine is_store ?_; refine sr ?_) | (refine is_alloc ?_; refine al ?_) | (refine is_box ?_; refine bx ?_) | (refine isl_load ?_; refine ldl ?_) | (refine isl_store ?_; refine srl ?_) | (refine isl_alloc ?_; refine all' ?_) | (refine isl_box ?_; refine bxl ?_) | refine dr Try.follows ?_)
    refine go_name (F := fun w3 => At w3 w2.heap.size [.int .i64 k, .int .i64 v, .int .u32 (l.root : Int), .int .u32 (r.root : Int), .int .i64 S.n, .int .i64 S.s, .int .i64 S.mn, .int .i64 S.mx] 52 ∧ At w3 w.heap.size [.int .i64 0, .int .i64 0] 35 ∧ At w3 (w.heap.size + 1) [.int .i64 (o.getD (0, 0)).1, .int .i64 (o.getD (0, 0)).2] 35 ∧ ArP w3 lo p q (B.read i) ∧ Fr (fun b => b = p) w w3 ∧ w2.heap.size + 1 ≤ w3.heap.size) ⟨by (repeat (first | assumption | (refine At.new' (by (first | omega | (simp; done) | (simp; omega))) _ _) | apply At.alloc | apply At.drewN | apply At.setRow | (apply At.setRow_neF; first | assumption | (apply Ne.symm; assumption) | omega) | (apply At.extF; assumption))), by (repeat (first | assumption | (refine At.new' (by (first | omega | (simp; done) | (simp; omega))) _ _) | apply At.alloc | apply At.drewN | apply At.setRow | (apply At.setRow_neF; first | assumption | (apply Ne.symm; assumption) | omega) | (apply At.extF; assumption))), by (repeat (first | assumption | (refine At.new' (by (first | omega | (simp; done) | (simp; omega))) _ _) | apply At.alloc | apply At.drewN | apply At.setRow | (apply At.setRow_neF; first | assumption | (apply Ne.symm; assumption) | omega) | (apply At.extF; assumption))), ha2.ext (by (repeat (first | exact Fr.refl _ _ | assumption | apply Fr.drewN | apply Fr.alloc | (apply Fr.transF; assumption) | (refine Fr.setRow ?_ _ (by first | exact Or.inr (by (first | omega | (simp; done) | (simp; omega))) | (exact Or.inl (by first | assumption | (simp; done)))))))), (hF1.trans hf2).trans (by (repeat (first | exact Fr.refl _ _ | assumption | apply Fr.drewN | apply Fr.alloc | (apply Fr.transF; assumption) | (refine Fr.setRow ?_ _ (by first | exact Or.inr (by (first | omega | (simp; done) | (simp; omega))) | (exact Or.inl (by first | assumption | (simp; done)))))))), by simp⟩ ?_
    rintro w3 ⟨hb1, hb2, hb3, ha3, hF3, hl3⟩
    refine go_callv (cs := cs) rfl rfl rfl (hP k w3 (hF3.mono fun b e => Or.inl e)) ?_
    rintro _ w3 ⟨rfl, rfl⟩
    cases hc : P k with
    | false =>
      rw [if_neg (by unfold pK; rw [hc]; decide)] at hsum
      repeat (first | refine sp ?_ | (refine is_load ?_; refine ld ?_) | (refine is_store ?_; refine sr ?_) | (refine is_alloc ?_; refine al ?_) | (refine is_box ?_; refine bx ?_) | (refine isl_load ?_; refine ldl ?_) | (refine isl_store ?_; refine srl ?_) | (refine isl_alloc ?_; refine all' ?_) | (refine isl_box ?_; refine bxl ?_) | refine dr Try.follows ?_)
      refine go_stop (G := Tr × Option (Int × Int) × AR) (l, o, B.read i) rfl ⟨rfl, rfl, rfl, rfl, trivial⟩ ⟨hi2.2.2.2.1, hel, hol, ?_, by omega, by omega, hB2.mono (by omega), ha3, hF3, by (repeat (first | assumption | (refine At.new' (by (first | omega | (simp; done) | (simp; omega))) _ _) | apply At.alloc | apply At.drewN | apply At.setRow | (apply At.setRow_neF; first | assumption | (apply Ne.symm; assumption) | omega) | (apply At.extF; assumption))), by (repeat (first | assumption | (refine At.new' (by (first | omega | (simp; done) | (simp; omega))) _ _) | apply At.alloc | apply At.drewN | apply At.setRow | (apply At.setRow_neF; first | assumption | (apply Ne.symm; assumption) | omega) | (apply At.extF; assumption))), by omega⟩ (by show l.sz < l.sz + 1 + r.sz; omega)
      have hnil : r.ents.filter (pK P) = [] := List.filter_eq_nil_iff.2 fun e he h2 => by
        have h1 := hgt e he
        have := hm k e.1 (by omega) h2
        rw [hc] at this; cases this
      rw [hnil, List.append_nil] at hsum
      exact hsum
    | true =>
      rw [if_pos (by unfold pK; exact hc)] at hsum
      repeat (first | refine sp ?_ | (refine is_load ?_; refine ld ?_) | (refine is_store ?_; refine sr ?_) | (refine is_alloc ?_; refine al ?_) | (refine is_box ?_; refine bx ?_) | (refine isl_load ?_; refine ldl ?_) | (refine isl_store ?_; refine srl ?_) | (refine isl_alloc ?_; refine all' ?_) | (refine isl_box ?_; refine bxl ?_) | refine dr Try.follows ?_)
      refine go_call rfl rfl (c_entry k v l.root r.root S.n S.s S.mn S.mx w3) ?_
      rintro _ w4 ⟨rfl, hx4⟩
      have hc1 := hb1.ext hx4
      have hc2 := hb2.ext hx4
      have hc3 := hb3.ext hx4
      have ha4 := ha3.ext hx4
      have hF4 := hF3.trans (Fr.of_ext hx4)
      have hl4 := hx4.size
      unfold entC
      repeat (first | refine sp ?_ | (refine is_load ?_; refine ld ?_) | (refine is_store ?_; refine sr ?_) | (refine is_alloc ?_; refine al ?_) | (refine is_box ?_; refine bx ?_) | (refine isl_load ?_; refine ldl ?_) | (refine isl_store ?_; refine srl ?_) | (refine isl_alloc ?_; refine all' ?_) | (refine isl_box ?_; refine bxl ?_) | refine dr Try.follows ?_)
      refine go_stop (G := Tr × Option (Int × Int) × AR) (r, some (k, v), B.read i) rfl ⟨rfl, rfl, rfl, rfl, trivial⟩ ⟨hi2.2.2.2.2, her, hor, ?_, by omega, by omega, hB2.mono (by omega), ha4.fr (S := fun b => w.heap.size ≤ b) (by (repeat (first | exact Fr.refl _ _ | assumption | apply Fr.drewN | apply Fr.alloc | (apply Fr.transF; assumption) | (refine Fr.setRow ?_ _ (by first | exact Or.inr (by (first | omega | (simp; done) | (simp; omega))) | (exact Or.inl (by first | assumption | (simp; done)))))))) (fun b hb e => by have := ha.lt b hb; omega), hF4.trans' (S' := fun b => w.heap.size ≤ b) (by (repeat (first | exact Fr.refl _ _ | assumption | apply Fr.drewN | apply Fr.alloc | (apply Fr.transF; assumption) | (refine Fr.setRow ?_ _ (by first | exact Or.inr (by (first | omega | (simp; done) | (simp; omega))) | (exact Or.inl (by first | assumption | (simp; done)))))))) (fun b hb e => by omega), by (repeat (first | assumption | (refine At.new' (by (first | omega | (simp; done) | (simp; omega))) _ _) | apply At.alloc | apply At.drewN | apply At.setRow | (apply At.setRow_neF; first | assumption | (apply Ne.symm; assumption) | omega) | (apply At.extF; assumption))), by show At _ _ [.int .i64 k, .int .i64 v] _; (repeat (first | assumption | (refine At.new' (by (first | omega | (simp; done) | (simp; omega))) _ _) | apply At.alloc | apply At.drewN | apply At.setRow | (apply At.setRow_neF; first | assumption | (apply Ne.symm; assumption) | omega) | (apply At.extF; assumption))), by simp; omega⟩ (by show r.sz < l.sz + 1 + r.sz; omega)
      rw [last_or, List.getLast?_cons] at hsum
      rw [← hsum]
      cases (r.ents.filter (pK P)).getLast? <;> rfl

set_option maxHeartbeats 4000000 in
theorem c_least' (w : World) (lo p : Nat) (q : AP) (A : AR) (t : Tr) (f : FuncId) [Enters Try.prog f] (cs : List Value) (P : Int → Bool) (hP : Adm w p f cs P) (hm : ∀ a b, a ≤ b → P a = true → P b = true) (ha : ArP w lo p q A) (hi : InA A t) (he : InE t.ents) (ho : Srt t.ents) (hs : t.sz ≤ 1000000) :
    Calls Try.prog 61 [ptr p, .int .u32 (t.root : Int), .func (.func f) #[] cs.toArray].toArray w (Ret (RdR w lo p q A t.ht (entV (t.ents.filter (pK P)).head?))) := by
  refine calls_go Try.func61 rfl Try.ntmps61 (Nat.le_of_ble_eq_true rfl) ?_
  have hpl := ha.lt p ha.fpp
  repeat (first | refine sp ?_ | (refine is_load ?_; refine ld ?_) | (refine is_store ?_; refine sr ?_) | (refine is_alloc ?_; refine al ?_) | (refine is_box ?_; refine bx ?_) | (refine isl_load ?_; refine ldl ?_) | (refine isl_store ?_; refine srl ?_) | (refine isl_alloc ?_; refine all' ?_) | (refine isl_box ?_; refine bxl ?_) | refine dr Try.follows ?_)
  refine go_loop (G := Tr × Option (Int × Int) × AR) [10, 9] (fun ⟨t', o, _⟩ => [.int .u32 (t'.root : Int), .bool o.isSome]) [(0, ptr p), (2, .func (.func f) #[] cs.toArray), (6, ptr w.heap.size), (8, ptr (w.heap.size + 1))]
    (fun ⟨t', o, B⟩ w' => InA B t' ∧ InE t'.ents ∧ Srt t'.ents ∧ ((t'.ents.filter (pK P)).head?).or o = (t.ents.filter (pK P)).head? ∧ t'.sz ≤ t.sz ∧ t'.ht ≤ t.ht ∧ Rds A B (t.ht - t'.ht) ∧ ArP w' lo p q B ∧ Fr (fun b => b = p) w w' ∧ At w' w.heap.size [.int .i64 0, .int .i64 0] 35 ∧ At w' (w.heap.size + 1) (entC (o.getD (0, 0))) 35 ∧ w.heap.size + 2 ≤ w'.heap.size)
    (fun g => g.1.sz) (t, none, A) rfl ⟨rfl, rfl, rfl, rfl, trivial⟩
    ⟨hi, he, ho, by simp, Nat.le_refl _, Nat.le_refl _, Rds.refl _ _, ha.ext (by (repeat (first | exact Fr.refl _ _ | assumption | apply Fr.drewN | apply Fr.alloc | (apply Fr.transF; assumption) | (refine Fr.setRow ?_ _ (by first | exact Or.inr (by (first | omega | (simp; done) | (simp; omega))) | (exact Or.inl (by first | assumption | (simp; done)))))))), by (repeat (first | exact Fr.refl _ _ | assumption | apply Fr.drewN | apply Fr.alloc | (apply Fr.transF; assumption) | (refine Fr.setRow ?_ _ (by first | exact Or.inr (by (first | omega | (simp; done) | (simp; omega))) | (exact Or.inl (by first | assumption | (simp; done))))))), by (repeat (first | assumption | (refine At.new' (by (first | omega | (simp; done) | (simp; omega))) _ _) | apply At.alloc | apply At.drewN | apply At.setRow | (apply At.setRow_neF; first | assumption | (apply Ne.symm; assumption) | omega) | (apply At.extF; assumption))), by show At _ _ [.int .i64 0, .int .i64 0] _; (repeat (first | assumption | (refine At.new' (by (first | omega | (simp; done) | (simp; omega))) _ _) | apply At.alloc | apply At.drewN | apply At.setRow | (apply At.setRow_neF; first | assumption | (apply Ne.symm; assumption) | omega) | (apply At.extF; assumption))), by simp⟩ ?_
  rintro ⟨t', o, B⟩ w1 ⟨hi1, he1, ho1, hsum, hn1, hht, hB, ha1, hF1, hat0, hat1, hl1⟩
  unfold entC at hat1
  cases t' with
  | nil =>
    have hfin : o = (t.ents.filter (pK P)).head? := by rw [← hsum]; rfl
    repeat (first | refine sp ?_ | (refine is_load ?_; refine ld ?_) | (refine is_store ?_; refine sr ?_) | (refine is_alloc ?_; refine al ?_) | (refine is_box ?_; refine bx ?_) | (refine isl_load ?_; refine ldl ?_) | (refine isl_store ?_; refine srl ?_) | (refine isl_alloc ?_; refine all' ?_) | (refine isl_box ?_; refine bxl ?_))
    refine go_ret2 rfl ⟨_, rfl, Ld.run (ld_part (by (repeat (first | assumption | (refine At.new' (by (first | omega | (simp; done) | (simp; omega))) _ _) | apply At.alloc | apply At.drewN | apply At.setRow | (apply At.setRow_neF; first | assumption | (apply Ne.symm; assumption) | omega) | (apply At.extF; assumption)))) rfl rfl)⟩ rfl ⟨_, rfl, RdR.fin ?_ ha ha1 (hB.mono (by omega)) hF1 (by (repeat (first | exact Fr.refl _ _ | assumption | apply Fr.drewN | apply Fr.alloc | (apply Fr.transF; assumption) | (refine Fr.setRow ?_ _ (by first | exact Or.inr (by (first | omega | (simp; done) | (simp; omega))) | (exact Or.inl (by first | assumption | (simp; done))))))))⟩
    rw [← hfin]; rfl
  | nd i l k v r =>
    have h0 : i ≠ 0 := by have := hi1.1; omega
    refine go_as 10 (u' := .int .u32 (i : Int)) rfl rfl ?_
    obtain ⟨hel, her, hkk, hvv⟩ := he1.nd
    obtain ⟨hol, hor, hlt, hgt⟩ := ho1.nd
    have hsz : (Tr.nd i l k v r).sz = l.sz + 1 + r.sz := rfl
    have hhd : (Tr.nd i l k v r).ht = 1 + max l.ht r.ht := rfl
    have hen : (Tr.nd i l k v r).ents = l.ents ++ (k, v) :: r.ents := rfl
    obtain ⟨hri, hrl, hrr⟩ := hi1.roots ha1.wf
    rw [hen, List.filter_append, List.filter_cons] at hsum
    repeat (first | refine sp ?_ | (refine is_load ?_; refine ld ?_) | (refine is_store ?_; refine sr ?_) | (refine is_alloc ?_; refine al ?_) | (refine is_box ?_; refine bx ?_) | (refine isl_load ?_; refine ldl ?_) | (refine isl_store ?_; refine srl ?_) | (refine isl_alloc ?_; refine all' ?_) | (refine isl_box ?_; refine bxl ?_) | refine dr Try.follows ?_)
    refine go_call rfl rfl (p_Node _ lo p q B i ha1 hri) ?_
    rintro _ w2 ⟨rfl, ha2, hf2⟩
    rw [show B.used i = true from hi1.2.1, hi1.nodeL he1 (by omega)]
    generalize smy (Tr.nd i l k v r).vals = S
    have hl2 := hf2.size
    have hi2 := hi1.read i
    have hat2 := hat0.fr hf2 (by omega)
    have hat3 := hat1.fr hf2 (by omega)
    have hB2 := hB.trans (Rds.read B i)
    repeat (first | refine sp ?_ | (refine is_load ?_; refine ld ?_) | (refine is_store ?_; refine sr ?_) | (refine is_alloc ?_; refine al ?_) | (refine is_box ?_; refine bx ?_) | (refine isl_load ?_; refine ldl ?_) | (refine isl_store ?_; refine srl ?_) | (refine isl_alloc ?_; refine all' ?_) | (refine isl_box ?_; refine bxl ?_) | refine dr Try.follows ?_)
    refine go_name (F := fun w3 => At w3 w2.heap.size [.int .i64 k, .int .i64 v, .int .u32 (l.root : Int), .int .u32 (r.root : Int), .int .i64 S.n, .int .i64 S.s, .int .i64 S.mn, .int .i64 S.mx] 52 ∧ At w3 w.heap.size [.int .i64 0, .int .i64 0] 35 ∧ At w3 (w.heap.size + 1) [.int .i64 (o.getD (0, 0)).1, .int .i64 (o.getD (0, 0)).2] 35 ∧ ArP w3 lo p q (B.read i) ∧ Fr (fun b => b = p) w w3 ∧ w2.heap.size + 1 ≤ w3.heap.size) ⟨by (repeat (first | assumption | (refine At.new' (by (first | omega | (simp; done) | (simp; omega))) _ _) | apply At.alloc | apply At.drewN | apply At.setRow | (apply At.setRow_neF; first | assumption | (apply Ne.symm; assumption) | omega) | (apply At.extF; assumption))), by (repeat (first | assumption | (refine At.new' (by (first | omega | (simp; done) | (simp; omega))) _ _) | apply At.alloc | apply At.drewN | apply At.setRow | (apply At.setRow_neF; first | assumption | (apply Ne.symm; assumption) | omega) | (apply At.extF; assumption))), by (repeat (first | assumption | (refine At.new' (by (first | omega | (simp; done) | (simp; omega))) _ _) | apply At.alloc | apply At.drewN | apply At.setRow | (apply At.setRow_neF; first | assumption | (apply Ne.symm; assumption) | omega) | (apply At.extF; assumption))), ha2.ext (by (repeat (first | exact Fr.refl _ _ | assumption | apply Fr.drewN | apply Fr.alloc | (apply Fr.transF; assumption) | (refine Fr.setRow ?_ _ (by first | exact Or.inr (by (first | omega | (simp; done) | (simp; omega))) | (exact Or.inl (by first | assumption | (simp; done)))))))), (hF1.trans hf2).trans (by (repeat (first | exact Fr.refl _ _ | assumption | apply Fr.drewN | apply Fr.alloc | (apply Fr.transF; assumption) | (refine Fr.setRow ?_ _ (by first | exact Or.inr (by (first | omega | (simp; done) | (simp; omega))) | (exact Or.inl (by first | assumption | (simp; done)))))))), by simp⟩ ?_
    rintro w3 ⟨hb1, hb2, hb3, ha3, hF3, hl3⟩
    refine go_callv (cs := cs) rfl rfl rfl (hP k w3 (hF3.mono fun b e => Or.inl e)) ?_
    rintro _ w3 ⟨rfl, rfl⟩
    cases hc : P k with
    | false =>
      rw [if_neg (by unfold pK; rw [hc]; decide)] at hsum
      repeat (first | refine sp ?_ | (refine is_load ?_; refine ld ?_) | (refine is_store ?_; refine sr ?_) | (refine is_alloc ?_; refine al ?_) | (refine is_box ?_; refine bx ?_) | (refine isl_load ?_; refine ldl ?_) | (refine isl_store ?_; refine srl ?_) | (refine isl_alloc ?_; refine all' ?_) | (refine isl_box ?_; refine bxl ?_) | refine dr Try.follows ?_)
      refine go_stop (G := Tr × Option (Int × Int) × AR) (r, o, B.read i) rfl ⟨rfl, rfl, rfl, rfl, trivial⟩ ⟨hi2.2.2.2.2, her, hor, ?_, by omega, by omega, hB2.mono (by omega), ha3, hF3, by (repeat (first | assumption | (refine At.new' (by (first | omega | (simp; done) | (simp; omega))) _ _) | apply At.alloc | apply At.drewN | apply At.setRow | (apply At.setRow_neF; first | assumption | (apply Ne.symm; assumption) | omega) | (apply At.extF; assumption))), by (repeat (first | assumption | (refine At.new' (by (first | omega | (simp; done) | (simp; omega))) _ _) | apply At.alloc | apply At.drewN | apply At.setRow | (apply At.setRow_neF; first | assumption | (apply Ne.symm; assumption) | omega) | (apply At.extF; assumption))), by omega⟩ (by show r.sz < l.sz + 1 + r.sz; omega)
      have hnil : l.ents.filter (pK P) = [] := List.filter_eq_nil_iff.2 fun e he h2 => by
        have h1 := hlt e he
        have := hm e.1 k (by omega) h2
        rw [hc] at this; cases this
      rw [hnil, List.nil_append] at hsum
      exact hsum
    | true =>
      rw [if_pos (by unfold pK; exact hc)] at hsum
      repeat (first | refine sp ?_ | (refine is_load ?_; refine ld ?_) | (refine is_store ?_; refine sr ?_) | (refine is_alloc ?_; refine al ?_) | (refine is_box ?_; refine bx ?_) | (refine isl_load ?_; refine ldl ?_) | (refine isl_store ?_; refine srl ?_) | (refine isl_alloc ?_; refine all' ?_) | (refine isl_box ?_; refine bxl ?_) | refine dr Try.follows ?_)
      refine go_call rfl rfl (c_entry k v l.root r.root S.n S.s S.mn S.mx w3) ?_
      rintro _ w4 ⟨rfl, hx4⟩
      have hc1 := hb1.ext hx4
      have hc2 := hb2.ext hx4
      have hc3 := hb3.ext hx4
      have ha4 := ha3.ext hx4
      have hF4 := hF3.trans (Fr.of_ext hx4)
      have hl4 := hx4.size
      unfold entC
      repeat (first | refine sp ?_ | (refine is_load ?_; refine ld ?_) | (refine is_store ?_; refine sr ?_) | (refine is_alloc ?_; refine al ?_) | (refine is_box ?_; refine bx ?_) | (refine isl_load ?_; refine ldl ?_) | (refine isl_store ?_; refine srl ?_) | (refine isl_alloc ?_; refine all' ?_) | (refine isl_box ?_; refine bxl ?_) | refine dr Try.follows ?_)
      refine go_stop (G := Tr × Option (Int × Int) × AR) (l, some (k, v), B.read i) rfl ⟨rfl, rfl, rfl, rfl, trivial⟩ ⟨hi2.2.2.2.1, hel, hol, ?_, by omega, by omega, hB2.mono (by omega), ha4.fr (S := fun b => w.heap.size ≤ b) (by (repeat (first | exact Fr.refl _ _ | assumption | apply Fr.drewN | apply Fr.alloc | (apply Fr.transF; assumption) | (refine Fr.setRow ?_ _ (by first | exact Or.inr (by (first | omega | (simp; done) | (simp; omega))) | (exact Or.inl (by first | assumption | (simp; done)))))))) (fun b hb e => by have := ha.lt b hb; omega), hF4.trans' (S' := fun b => w.heap.size ≤ b) (by (repeat (first | exact Fr.refl _ _ | assumption | apply Fr.drewN | apply Fr.alloc | (apply Fr.transF; assumption) | (refine Fr.setRow ?_ _ (by first | exact Or.inr (by (first | omega | (simp; done) | (simp; omega))) | (exact Or.inl (by first | assumption | (simp; done)))))))) (fun b hb e => by omega), by (repeat (first | assumption | (refine At.new' (by (first | omega | (simp; done) | (simp; omega))) _ _) | apply At.alloc | apply At.drewN | apply At.setRow | (apply At.setRow_neF; first | assumption | (apply Ne.symm; assumption) | omega) | (apply At.extF; assumption))), by show At _ _ [.int .i64 k, .int .i64 v] _; (repeat (first | assumption | (refine At.new' (by (first | omega | (simp; done) | (simp; omega))) _ _) | apply At.alloc | apply At.drewN | apply At.setRow | (apply At.setRow_neF; first | assumption | (apply Ne.symm; assumption) | omega) | (apply At.extF; assumption))), by simp; omega⟩ (by show l.sz < l.sz + 1 + r.sz; omega)
      rw [head_or] at hsum
      rw [← hsum]
      cases (l.ents.filter (pK P)).head? <;> rfl

/-! ### The functions -/

set_option maxHeartbeats 1000000 in
theorem c_Floor (w : World) (lo p : Nat) (q : AP) (A : AR) (t : Tr) (x : Int) (ha : ArP w lo p q A) (hi : InA A t) (he : InE t.ents) (ho : Srt t.ents) (hs : t.sz ≤ 1000000) :
    Calls Try.prog 22 [ptr p, .int .u32 (t.root : Int), .int .i64 x].toArray w (Ret (RdR w lo p q A t.ht (entV (t.ents.filter (pK (fun k => decide (k ≤ x)))).getLast?))) := by
  have hpl := ha.lt p ha.fpp
  have hAdm : Adm ((w.alloc (.cells [Value.int .i64 x].toArray 2)).alloc (.cells [Value.int .i64 0, .int .i64 0].toArray 35)) p 60 [ptr w.heap.size] (fun k => decide (k ≤ x)) := by
    intro k w' hf
    have hat : At w' w.heap.size [.int .i64 x] 2 := At.fr (w := (w.alloc (.cells [Value.int .i64 x].toArray 2)).alloc (.cells [Value.int .i64 0, .int .i64 0].toArray 35)) (by (repeat (first | assumption | (refine At.new' (by (first | omega | (simp; done) | (simp; omega))) _ _) | apply At.alloc | apply At.drewN | apply At.setRow | (apply At.setRow_neF; first | assumption | (apply Ne.symm; assumption) | omega) | (apply At.extF; assumption)))) hf (by simp; omega)
    refine calls_go Try.func60 rfl Try.ntmps60 (Nat.le_of_ble_eq_true rfl) ?_
    by_cases hk : k ≤ x
    · repeat (first | refine sp ?_ | (refine is_load ?_; refine ld ?_) | (refine is_store ?_; refine sr ?_) | (refine is_alloc ?_; refine al ?_) | (refine is_box ?_; refine bx ?_) | (refine isl_load ?_; refine ldl ?_) | (refine isl_store ?_; refine srl ?_) | (refine isl_alloc ?_; refine all' ?_) | (refine isl_box ?_; refine bxl ?_) | refine dr Try.follows ?_)
      exact go_ret1 rfl rfl ⟨_, rfl, by simp [hk], rfl⟩
    · repeat (first | refine sp ?_ | (refine is_load ?_; refine ld ?_) | (refine is_store ?_; refine sr ?_) | (refine is_alloc ?_; refine al ?_) | (refine is_box ?_; refine bx ?_) | (refine isl_load ?_; refine ldl ?_) | (refine isl_store ?_; refine srl ?_) | (refine isl_alloc ?_; refine all' ?_) | (refine isl_box ?_; refine bxl ?_) | refine dr Try.follows ?_)
      exact go_ret1 rfl rfl ⟨_, rfl, by simp [hk], rfl⟩
  refine calls_go Try.func22 rfl Try.ntmps22 (Nat.le_of_ble_eq_true rfl) ?_
  repeat (first | refine sp ?_ | (refine is_load ?_; refine ld ?_) | (refine is_store ?_; refine sr ?_) | (refine is_alloc ?_; refine al ?_) | (refine is_box ?_; refine bx ?_) | (refine isl_load ?_; refine ldl ?_) | (refine isl_store ?_; refine srl ?_) | (refine isl_alloc ?_; refine all' ?_) | (refine isl_box ?_; refine bxl ?_) | refine dr Try.follows ?_)
  refine go_p rfl (pr_makeFunc (cs := [.tmp 5]) (vs := [ptr w.heap.size]) rfl) ?_
  repeat (first | refine sp ?_ | (refine is_load ?_; refine ld ?_) | (refine is_store ?_; refine sr ?_) | (refine is_alloc ?_; refine al ?_) | (refine is_box ?_; refine bx ?_) | (refine isl_load ?_; refine ldl ?_) | (refine isl_store ?_; refine srl ?_) | (refine isl_alloc ?_; refine all' ?_) | (refine isl_box ?_; refine bxl ?_) | refine dr Try.follows ?_)
  refine go_call rfl rfl (c_greatest _ lo p q A t 60 [ptr w.heap.size] _ hAdm (fun a b h1 h2 => by simp at h2 ⊢; omega) (ha.ext (by (repeat (first | exact Fr.refl _ _ | assumption | apply Fr.drewN | apply Fr.alloc | (apply Fr.transF; assumption) | (refine Fr.setRow ?_ _ (by first | exact Or.inr (by (first | omega | (simp; done) | (simp; omega))) | (exact Or.inl (by first | assumption | (simp; done))))))))) hi he ho hs) ?_
  rintro _ w1 ⟨rfl, B, ha1, hB, hf1⟩
  have hF1 : Fr (fun b => b = p) w w1 := Fr.trans (by (repeat (first | exact Fr.refl _ _ | assumption | apply Fr.drewN | apply Fr.alloc | (apply Fr.transF; assumption) | (refine Fr.setRow ?_ _ (by first | exact Or.inr (by (first | omega | (simp; done) | (simp; omega))) | (exact Or.inl (by first | assumption | (simp; done)))))))) hf1
  have hret : At w1 (w.heap.size + 1) [.int .i64 0, .int .i64 0] 35 := At.fr (w := (w.alloc (.cells [Value.int .i64 x].toArray 2)).alloc (.cells [Value.int .i64 0, .int .i64 0].toArray 35)) (by (repeat (first | assumption | (refine At.new' (by (first | omega | (simp; done) | (simp; omega))) _ _) | apply At.alloc | apply At.drewN | apply At.setRow | (apply At.setRow_neF; first | assumption | (apply Ne.symm; assumption) | omega) | (apply At.extF; assumption)))) hf1 (by omega)
  generalize (t.ents.filter (pK (fun k => decide (k ≤ x)))).getLast? = o
  unfold entV
  repeat (first | refine sp ?_ | (refine is_load ?_; refine ld ?_) | (refine is_store ?_; refine sr ?_) | (refine is_alloc ?_; refine al ?_) | (refine is_box ?_; refine bx ?_) | (refine isl_load ?_; refine ldl ?_) | (refine isl_store ?_; refine srl ?_) | (refine isl_alloc ?_; refine all' ?_) | (refine isl_box ?_; refine bxl ?_) | refine dr Try.follows ?_)
  exact go_ret2 rfl ⟨_, rfl, Ld.run (ld_part (by (repeat (first | assumption | (refine At.new' (by (first | omega | (simp; done) | (simp; omega))) _ _) | apply At.alloc | apply At.drewN | apply At.setRow | (apply At.setRow_neF; first | assumption | (apply Ne.symm; assumption) | omega) | (apply At.extF; assumption)))) rfl rfl)⟩ rfl ⟨_, rfl, RdR.fin rfl ha ha1 hB hF1 (by (repeat (first | exact Fr.refl _ _ | assumption | apply Fr.drewN | apply Fr.alloc | (apply Fr.transF; assumption) | (refine Fr.setRow ?_ _ (by first | exact Or.inr (by (first | omega | (simp; done) | (simp; omega))) | (exact Or.inl (by first | assumption | (simp; done))))))))⟩

set_option maxHeartbeats 1000000 in
theorem c_Below (w : World) (lo p : Nat) (q : AP) (A : AR) (t : Tr) (x : Int) (ha : ArP w lo p q A) (hi : InA A t) (he : InE t.ents) (ho : Srt t.ents) (hs : t.sz ≤ 1000000) :
    Calls Try.prog 28 [ptr p, .int .u32 (t.root : Int), .int .i64 x].toArray w (Ret (RdR w lo p q A t.ht (entV (t.ents.filter (pK (fun k => decide (k < x)))).getLast?))) := by
  have hpl := ha.lt p ha.fpp
  have hAdm : Adm ((w.alloc (.cells [Value.int .i64 x].toArray 2)).alloc (.cells [Value.int .i64 0, .int .i64 0].toArray 35)) p 63 [ptr w.heap.size] (fun k => decide (k < x)) := by
    intro k w' hf
    have hat : At w' w.heap.size [.int .i64 x] 2 := At.fr (w := (w.alloc (.cells [Value.int .i64 x].toArray 2)).alloc (.cells [Value.int .i64 0, .int .i64 0].toArray 35)) (by (repeat (first | assumption | (refine At.new' (by (first | omega | (simp; done) | (simp; omega))) _ _) | apply At.alloc | apply At.drewN | apply At.setRow | (apply At.setRow_neF; first | assumption | (apply Ne.symm; assumption) | omega) | (apply At.extF; assumption)))) hf (by simp; omega)
    refine calls_go Try.func63 rfl Try.ntmps63 (Nat.le_of_ble_eq_true rfl) ?_
    by_cases hk : k < x
    · repeat (first | refine sp ?_ | (refine is_load ?_; refine ld ?_) | (refine is_store ?_; refine sr ?_) | (refine is_alloc ?_; refine al ?_) | (refine is_box ?_; refine bx ?_) | (refine isl_load ?_; refine ldl ?_) | (refine isl_store ?_; refine srl ?_) | (refine isl_alloc ?_; refine all' ?_) | (refine isl_box ?_; refine bxl ?_) | refine dr Try.follows ?_)
      exact go_ret1 rfl rfl ⟨_, rfl, by simp [hk], rfl⟩
    · repeat (first | refine sp ?_ | (refine is_load ?_; refine ld ?_) | (refine is_store ?_; refine sr ?_) | (refine is_alloc ?_; refine al ?_) | (refine is_box ?_; refine bx ?_) | (refine isl_load ?_; refine ldl ?_) | (refine isl_store ?_; refine srl ?_) | (refine isl_alloc ?_; refine all' ?_) | (refine isl_box ?_; refine bxl ?_) | refine dr Try.follows ?_)
      exact go_ret1 rfl rfl ⟨_, rfl, by simp [hk], rfl⟩
  refine calls_go Try.func28 rfl Try.ntmps28 (Nat.le_of_ble_eq_true rfl) ?_
  repeat (first | refine sp ?_ | (refine is_load ?_; refine ld ?_) | (refine is_store ?_; refine sr ?_) | (refine is_alloc ?_; refine al ?_) | (refine is_box ?_; refine bx ?_) | (refine isl_load ?_; refine ldl ?_) | (refine isl_store ?_; refine srl ?_) | (refine isl_alloc ?_; refine all' ?_) | (refine isl_box ?_; refine bxl ?_) | refine dr Try.follows ?_)
  refine go_p rfl (pr_makeFunc (cs := [.tmp 5]) (vs := [ptr w.heap.size]) rfl) ?_
  repeat (first | refine sp ?_ | (refine is_load ?_; refine ld ?_) | (refine is_store ?_; refine sr ?_) | (refine is_alloc ?_; refine al ?_) | (refine is_box ?_; refine bx ?_) | (refine isl_load ?_; refine ldl ?_) | (refine isl_store ?_; refine srl ?_) | (refine isl_alloc ?_; refine all' ?_) | (refine isl_box ?_; refine bxl ?_) | refine dr Try.follows ?_)
  refine go_call rfl rfl (c_greatest _ lo p q A t 63 [ptr w.heap.size] _ hAdm (fun a b h1 h2 => by simp at h2 ⊢; omega) (ha.ext (by (repeat (first | exact Fr.refl _ _ | assumption | apply Fr.drewN | apply Fr.alloc | (apply Fr.transF; assumption) | (refine Fr.setRow ?_ _ (by first | exact Or.inr (by (first | omega | (simp; done) | (simp; omega))) | (exact Or.inl (by first | assumption | (simp; done))))))))) hi he ho hs) ?_
  rintro _ w1 ⟨rfl, B, ha1, hB, hf1⟩
  have hF1 : Fr (fun b => b = p) w w1 := Fr.trans (by (repeat (first | exact Fr.refl _ _ | assumption | apply Fr.drewN | apply Fr.alloc | (apply Fr.transF; assumption) | (refine Fr.setRow ?_ _ (by first | exact Or.inr (by (first | omega | (simp; done) | (simp; omega))) | (exact Or.inl (by first | assumption | (simp; done)))))))) hf1
  have hret : At w1 (w.heap.size + 1) [.int .i64 0, .int .i64 0] 35 := At.fr (w := (w.alloc (.cells [Value.int .i64 x].toArray 2)).alloc (.cells [Value.int .i64 0, .int .i64 0].toArray 35)) (by (repeat (first | assumption | (refine At.new' (by (first | omega | (simp; done) | (simp; omega))) _ _) | apply At.alloc | apply At.drewN | apply At.setRow | (apply At.setRow_neF; first | assumption | (apply Ne.symm; assumption) | omega) | (apply At.extF; assumption)))) hf1 (by omega)
  generalize (t.ents.filter (pK (fun k => decide (k < x)))).getLast? = o
  unfold entV
  repeat (first | refine sp ?_ | (refine is_load ?_; refine ld ?_) | (refine is_store ?_; refine sr ?_) | (refine is_alloc ?_; refine al ?_) | (refine is_box ?_; refine bx ?_) | (refine isl_load ?_; refine ldl ?_) | (refine isl_store ?_; refine srl ?_) | (refine isl_alloc ?_; refine all' ?_) | (refine isl_box ?_; refine bxl ?_) | refine dr Try.follows ?_)
  exact go_ret2 rfl ⟨_, rfl, Ld.run (ld_part (by (repeat (first | assumption | (refine At.new' (by (first | omega | (simp; done) | (simp; omega))) _ _) | apply At.alloc | apply At.drewN | apply At.setRow | (apply At.setRow_neF; first | assumption | (apply Ne.symm; assumption) | omega) | (apply At.extF; assumption)))) rfl rfl)⟩ rfl ⟨_, rfl, RdR.fin rfl ha ha1 hB hF1 (by (repeat (first | exact Fr.refl _ _ | assumption | apply Fr.drewN | apply Fr.alloc | (apply Fr.transF; assumption) | (refine Fr.setRow ?_ _ (by first | exact Or.inr (by (first | omega | (simp; done) | (simp; omega))) | (exact Or.inl (by first | assumption | (simp; done))))))))⟩

set_option maxHeartbeats 1000000 in
theorem c_Ceiling (w : World) (lo p : Nat) (q : AP) (A : AR) (t : Tr) (x : Int) (ha : ArP w lo p q A) (hi : InA A t) (he : InE t.ents) (ho : Srt t.ents) (hs : t.sz ≤ 1000000) :
    Calls Try.prog 26 [ptr p, .int .u32 (t.root : Int), .int .i64 x].toArray w (Ret (RdR w lo p q A t.ht (entV (t.ents.filter (pK (fun k => decide (x ≤ k)))).head?))) := by
  have hpl := ha.lt p ha.fpp
  have hAdm : Adm ((w.alloc (.cells [Value.int .i64 x].toArray 2)).alloc (.cells [Value.int .i64 0, .int .i64 0].toArray 35)) p 62 [ptr w.heap.size] (fun k => decide (x ≤ k)) := by
    intro k w' hf
    have hat : At w' w.heap.size [.int .i64 x] 2 := At.fr (w := (w.alloc (.cells [Value.int .i64 x].toArray 2)).alloc (.cells [Value.int .i64 0, .int .i64 0].toArray 35)) (by (repeat (first | assumption | (refine At.new' (by (first | omega | (simp; done) | (simp; omega))) _ _) | apply At.alloc | apply At.drewN | apply At.setRow | (apply At.setRow_neF; first | assumption | (apply Ne.symm; assumption) | omega) | (apply At.extF; assumption)))) hf (by simp; omega)
    refine calls_go Try.func62 rfl Try.ntmps62 (Nat.le_of_ble_eq_true rfl) ?_
    by_cases hk : x ≤ k
    · repeat (first | refine sp ?_ | (refine is_load ?_; refine ld ?_) | (refine is_store ?_; refine sr ?_) | (refine is_alloc ?_; refine al ?_) | (refine is_box ?_; refine bx ?_) | (refine isl_load ?_; refine ldl ?_) | (refine isl_store ?_; refine srl ?_) | (refine isl_alloc ?_; refine all' ?_) | (refine isl_box ?_; refine bxl ?_) | refine dr Try.follows ?_)
      exact go_ret1 rfl rfl ⟨_, rfl, by simp [hk], rfl⟩
    · repeat (first | refine sp ?_ | (refine is_load ?_; refine ld ?_) | (refine is_store ?_; refine sr ?_) | (refine is_alloc ?_; refine al ?_) | (refine is_box ?_; refine bx ?_) | (refine isl_load ?_; refine ldl ?_) | (refine isl_store ?_; refine srl ?_) | (refine isl_alloc ?_; refine all' ?_) | (refine isl_box ?_; refine bxl ?_) | refine dr Try.follows ?_)
      exact go_ret1 rfl rfl ⟨_, rfl, by simp [hk], rfl⟩
  refine calls_go Try.func26 rfl Try.ntmps26 (Nat.le_of_ble_eq_true rfl) ?_
  repeat (first | refine sp ?_ | (refine is_load ?_; refine ld ?_) | (refine is_store ?_; refine sr ?_) | (refine is_alloc ?_; refine al ?_) | (refine is_box ?_; refine bx ?_) | (refine isl_load ?_; refine ldl ?_) | (refine isl_store ?_; refine srl ?_) | (refine isl_alloc ?_; refine all' ?_) | (refine isl_box ?_; refine bxl ?_) | refine dr Try.follows ?_)
  refine go_p rfl (pr_makeFunc (cs := [.tmp 5]) (vs := [ptr w.heap.size]) rfl) ?_
  repeat (first | refine sp ?_ | (refine is_load ?_; refine ld ?_) | (refine is_store ?_; refine sr ?_) | (refine is_alloc ?_; refine al ?_) | (refine is_box ?_; refine bx ?_) | (refine isl_load ?_; refine ldl ?_) | (refine isl_store ?_; refine srl ?_) | (refine isl_alloc ?_; refine all' ?_) | (refine isl_box ?_; refine bxl ?_) | refine dr Try.follows ?_)
  refine go_call rfl rfl (c_least' _ lo p q A t 62 [ptr w.heap.size] _ hAdm (fun a b h1 h2 => by simp at h2 ⊢; omega) (ha.ext (by (repeat (first | exact Fr.refl _ _ | assumption | apply Fr.drewN | apply Fr.alloc | (apply Fr.transF; assumption) | (refine Fr.setRow ?_ _ (by first | exact Or.inr (by (first | omega | (simp; done) | (simp; omega))) | (exact Or.inl (by first | assumption | (simp; done))))))))) hi he ho hs) ?_
  rintro _ w1 ⟨rfl, B, ha1, hB, hf1⟩
  have hF1 : Fr (fun b => b = p) w w1 := Fr.trans (by (repeat (first | exact Fr.refl _ _ | assumption | apply Fr.drewN | apply Fr.alloc | (apply Fr.transF; assumption) | (refine Fr.setRow ?_ _ (by first | exact Or.inr (by (first | omega | (simp; done) | (simp; omega))) | (exact Or.inl (by first | assumption | (simp; done)))))))) hf1
  have hret : At w1 (w.heap.size + 1) [.int .i64 0, .int .i64 0] 35 := At.fr (w := (w.alloc (.cells [Value.int .i64 x].toArray 2)).alloc (.cells [Value.int .i64 0, .int .i64 0].toArray 35)) (by (repeat (first | assumption | (refine At.new' (by (first | omega | (simp; done) | (simp; omega))) _ _) | apply At.alloc | apply At.drewN | apply At.setRow | (apply At.setRow_neF; first | assumption | (apply Ne.symm; assumption) | omega) | (apply At.extF; assumption)))) hf1 (by omega)
  generalize (t.ents.filter (pK (fun k => decide (x ≤ k)))).head? = o
  unfold entV
  repeat (first | refine sp ?_ | (refine is_load ?_; refine ld ?_) | (refine is_store ?_; refine sr ?_) | (refine is_alloc ?_; refine al ?_) | (refine is_box ?_; refine bx ?_) | (refine isl_load ?_; refine ldl ?_) | (refine isl_store ?_; refine srl ?_) | (refine isl_alloc ?_; refine all' ?_) | (refine isl_box ?_; refine bxl ?_) | refine dr Try.follows ?_)
  exact go_ret2 rfl ⟨_, rfl, Ld.run (ld_part (by (repeat (first | assumption | (refine At.new' (by (first | omega | (simp; done) | (simp; omega))) _ _) | apply At.alloc | apply At.drewN | apply At.setRow | (apply At.setRow_neF; first | assumption | (apply Ne.symm; assumption) | omega) | (apply At.extF; assumption)))) rfl rfl)⟩ rfl ⟨_, rfl, RdR.fin rfl ha ha1 hB hF1 (by (repeat (first | exact Fr.refl _ _ | assumption | apply Fr.drewN | apply Fr.alloc | (apply Fr.transF; assumption) | (refine Fr.setRow ?_ _ (by first | exact Or.inr (by (first | omega | (simp; done) | (simp; omega))) | (exact Or.inl (by first | assumption | (simp; done))))))))⟩

set_option maxHeartbeats 1000000 in
theorem c_Above (w : World) (lo p : Nat) (q : AP) (A : AR) (t : Tr) (x : Int) (ha : ArP w lo p q A) (hi : InA A t) (he : InE t.ents) (ho : Srt t.ents) (hs : t.sz ≤ 1000000) :
    Calls Try.prog 30 [ptr p, .int .u32 (t.root : Int), .int .i64 x].toArray w (Ret (RdR w lo p q A t.ht (entV (t.ents.filter (pK (fun k => decide (x < k)))).head?))) := by
  have hpl := ha.lt p ha.fpp
  have hAdm : Adm ((w.alloc (.cells [Value.int .i64 x].toArray 2)).alloc (.cells [Value.int .i64 0, .int .i64 0].toArray 35)) p 64 [ptr w.heap.size] (fun k => decide (x < k)) := by
    intro k w' hf
    have hat : At w' w.heap.size [.int .i64 x] 2 := At.fr (w := (w.alloc (.cells [Value.int .i64 x].toArray 2)).alloc (.cells [Value.int .i64 0, .int .i64 0].toArray 35)) (by (repeat (first | assumption | (refine At.new' (by (first | omega | (simp; done) | (simp; omega))) _ _) | apply At.alloc | apply At.drewN | apply At.setRow | (apply At.setRow_neF; first | assumption | (apply Ne.symm; assumption) | omega) | (apply At.extF; assumption)))) hf (by simp; omega)
    refine calls_go Try.func64 rfl Try.ntmps64 (Nat.le_of_ble_eq_true rfl) ?_
    by_cases hk : x < k
    · repeat (first | refine sp ?_ | (refine is_load ?_; refine ld ?_) | (refine is_store ?_; refine sr ?_) | (refine is_alloc ?_; refine al ?_) | (refine is_box ?_; refine bx ?_) | (refine isl_load ?_; refine ldl ?_) | (refine isl_store ?_; refine srl ?_) | (refine isl_alloc ?_; refine all' ?_) | (refine isl_box ?_; refine bxl ?_) | refine dr Try.follows ?_)
      exact go_ret1 rfl rfl ⟨_, rfl, by simp [hk], rfl⟩
    · repeat (first | refine sp ?_ | (refine is_load ?_; refine ld ?_) | (refine is_store ?_; refine sr ?_) | (refine is_alloc ?_; refine al ?_) | (refine is_box ?_; refine bx ?_) | (refine isl_load ?_; refine ldl ?_) | (refine isl_store ?_; refine srl ?_) | (refine isl_alloc ?_; refine all' ?_) | (refine isl_box ?_; refine bxl ?_) | refine dr Try.follows ?_)
      exact go_ret1 rfl rfl ⟨_, rfl, by simp [hk], rfl⟩
  refine calls_go Try.func30 rfl Try.ntmps30 (Nat.le_of_ble_eq_true rfl) ?_
  repeat (first | refine sp ?_ | (refine is_load ?_; refine ld ?_) | (refine is_store ?_; refine sr ?_) | (refine is_alloc ?_; refine al ?_) | (refine is_box ?_; refine bx ?_) | (refine isl_load ?_; refine ldl ?_) | (refine isl_store ?_; refine srl ?_) | (refine isl_alloc ?_; refine all' ?_) | (refine isl_box ?_; refine bxl ?_) | refine dr Try.follows ?_)
  refine go_p rfl (pr_makeFunc (cs := [.tmp 5]) (vs := [ptr w.heap.size]) rfl) ?_
  repeat (first | refine sp ?_ | (refine is_load ?_; refine ld ?_) | (refine is_store ?_; refine sr ?_) | (refine is_alloc ?_; refine al ?_) | (refine is_box ?_; refine bx ?_) | (refine isl_load ?_; refine ldl ?_) | (refine isl_store ?_; refine srl ?_) | (refine isl_alloc ?_; refine all' ?_) | (refine isl_box ?_; refine bxl ?_) | refine dr Try.follows ?_)
  refine go_call rfl rfl (c_least' _ lo p q A t 64 [ptr w.heap.size] _ hAdm (fun a b h1 h2 => by simp at h2 ⊢; omega) (ha.ext (by (repeat (first | exact Fr.refl _ _ | assumption | apply Fr.drewN | apply Fr.alloc | (apply Fr.transF; assumption) | (refine Fr.setRow ?_ _ (by first | exact Or.inr (by (first | omega | (simp; done) | (simp; omega))) | (exact Or.inl (by first | assumption | (simp; done))))))))) hi he ho hs) ?_
  rintro _ w1 ⟨rfl, B, ha1, hB, hf1⟩
  have hF1 : Fr (fun b => b = p) w w1 := Fr.trans (by (repeat (first | exact Fr.refl _ _ | assumption | apply Fr.drewN | apply Fr.alloc | (apply Fr.transF; assumption) | (refine Fr.setRow ?_ _ (by first | exact Or.inr (by (first | omega | (simp; done) | (simp; omega))) | (exact Or.inl (by first | assumption | (simp; done)))))))) hf1
  have hret : At w1 (w.heap.size + 1) [.int .i64 0, .int .i64 0] 35 := At.fr (w := (w.alloc (.cells [Value.int .i64 x].toArray 2)).alloc (.cells [Value.int .i64 0, .int .i64 0].toArray 35)) (by (repeat (first | assumption | (refine At.new' (by (first | omega | (simp; done) | (simp; omega))) _ _) | apply At.alloc | apply At.drewN | apply At.setRow | (apply At.setRow_neF; first | assumption | (apply Ne.symm; assumption) | omega) | (apply At.extF; assumption)))) hf1 (by omega)
  generalize (t.ents.filter (pK (fun k => decide (x < k)))).head? = o
  unfold entV
  repeat (first | refine sp ?_ | (refine is_load ?_; refine ld ?_) | (refine is_store ?_; refine sr ?_) | (refine is_alloc ?_; refine al ?_) | (refine is_box ?_; refine bx ?_) | (refine isl_load ?_; refine ldl ?_) | (refine isl_store ?_; refine srl ?_) | (refine isl_alloc ?_; refine all' ?_) | (refine isl_box ?_; refine bxl ?_) | refine dr Try.follows ?_)
  exact go_ret2 rfl ⟨_, rfl, Ld.run (ld_part (by (repeat (first | assumption | (refine At.new' (by (first | omega | (simp; done) | (simp; omega))) _ _) | apply At.alloc | apply At.drewN | apply At.setRow | (apply At.setRow_neF; first | assumption | (apply Ne.symm; assumption) | omega) | (apply At.extF; assumption)))) rfl rfl)⟩ rfl ⟨_, rfl, RdR.fin rfl ha ha1 hB hF1 (by (repeat (first | exact Fr.refl _ _ | assumption | apply Fr.drewN | apply Fr.alloc | (apply Fr.transF; assumption) | (refine Fr.setRow ?_ _ (by first | exact Or.inr (by (first | omega | (simp; done) | (simp; omega))) | (exact Or.inl (by first | assumption | (simp; done))))))))⟩

set_option maxHeartbeats 1000000 in
theorem c_First (w : World) (lo p : Nat) (q : AP) (A : AR) (t : Tr) (ha : ArP w lo p q A) (hi : InA A t) (he : InE t.ents) (ho : Srt t.ents) (hs : t.sz ≤ 1000000) :
    Calls Try.prog 33 [ptr p, .int .u32 (t.root : Int)].toArray w (Ret (RdR w lo p q A t.ht (entV t.ents.head?))) := by
  have hpl := ha.lt p ha.fpp
  have hAdm : Adm (w.alloc (.cells [Value.int .i64 0, .int .i64 0].toArray 35)) p 65 [] (fun _ => true) := by
    intro k w' hf
    refine calls_go Try.func65 rfl Try.ntmps65 (Nat.le_of_ble_eq_true rfl) ?_
    repeat (first | refine sp ?_ | (refine is_load ?_; refine ld ?_) | (refine is_store ?_; refine sr ?_) | (refine is_alloc ?_; refine al ?_) | (refine is_box ?_; refine bx ?_) | (refine isl_load ?_; refine ldl ?_) | (refine isl_store ?_; refine srl ?_) | (refine isl_alloc ?_; refine all' ?_) | (refine isl_box ?_; refine bxl ?_) | refine dr Try.follows ?_)
    exact go_ret1 rfl rfl ⟨_, rfl, rfl, rfl⟩
  have hall : t.ents.filter (pK fun _ => true) = t.ents := List.filter_eq_self.2 fun e _ => rfl
  refine calls_go Try.func33 rfl Try.ntmps33 (Nat.le_of_ble_eq_true rfl) ?_
  repeat (first | refine sp ?_ | (refine is_load ?_; refine ld ?_) | (refine is_store ?_; refine sr ?_) | (refine is_alloc ?_; refine al ?_) | (refine is_box ?_; refine bx ?_) | (refine isl_load ?_; refine ldl ?_) | (refine isl_store ?_; refine srl ?_) | (refine isl_alloc ?_; refine all' ?_) | (refine isl_box ?_; refine bxl ?_) | refine dr Try.follows ?_)
  refine go_call rfl rfl (c_least' _ lo p q A t 65 [] _ hAdm (fun a b h1 h2 => rfl) (ha.ext (by (repeat (first | exact Fr.refl _ _ | assumption | apply Fr.drewN | apply Fr.alloc | (apply Fr.transF; assumption) | (refine Fr.setRow ?_ _ (by first | exact Or.inr (by (first | omega | (simp; done) | (simp; omega))) | (exact Or.inl (by first | assumption | (simp; done))))))))) hi he ho hs) ?_
  rintro _ w1 ⟨rfl, B, ha1, hB, hf1⟩
  rw [hall]
  have hF1 : Fr (fun b => b = p) w w1 := Fr.trans (by (repeat (first | exact Fr.refl _ _ | assumption | apply Fr.drewN | apply Fr.alloc | (apply Fr.transF; assumption) | (refine Fr.setRow ?_ _ (by first | exact Or.inr (by (first | omega | (simp; done) | (simp; omega))) | (exact Or.inl (by first | assumption | (simp; done)))))))) hf1
  have hret : At w1 w.heap.size [.int .i64 0, .int .i64 0] 35 := At.fr (At.new _ _ _) hf1 (by omega)
  generalize t.ents.head? = o
  unfold entV
  repeat (first | refine sp ?_ | (refine is_load ?_; refine ld ?_) | (refine is_store ?_; refine sr ?_) | (refine is_alloc ?_; refine al ?_) | (refine is_box ?_; refine bx ?_) | (refine isl_load ?_; refine ldl ?_) | (refine isl_store ?_; refine srl ?_) | (refine isl_alloc ?_; refine all' ?_) | (refine isl_box ?_; refine bxl ?_) | refine dr Try.follows ?_)
  exact go_ret2 rfl ⟨_, rfl, Ld.run (ld_part (by (repeat (first | assumption | (refine At.new' (by (first | omega | (simp; done) | (simp; omega))) _ _) | apply At.alloc | apply At.drewN | apply At.setRow | (apply At.setRow_neF; first | assumption | (apply Ne.symm; assumption) | omega) | (apply At.extF; assumption)))) rfl rfl)⟩ rfl ⟨_, rfl, RdR.fin rfl ha ha1 hB hF1 (by (repeat (first | exact Fr.refl _ _ | assumption | apply Fr.drewN | apply Fr.alloc | (apply Fr.transF; assumption) | (refine Fr.setRow ?_ _ (by first | exact Or.inr (by (first | omega | (simp; done) | (simp; omega))) | (exact Or.inl (by first | assumption | (simp; done))))))))⟩

set_option maxHeartbeats 1000000 in
theorem c_Last (w : World) (lo p : Nat) (q : AP) (A : AR) (t : Tr) (ha : ArP w lo p q A) (hi : InA A t) (he : InE t.ents) (ho : Srt t.ents) (hs : t.sz ≤ 1000000) :
    Calls Try.prog 55 [ptr p, .int .u32 (t.root : Int)].toArray w (Ret (RdR w lo p q A t.ht (entV t.ents.getLast?))) := by
  have hpl := ha.lt p ha.fpp
  have hAdm : Adm (w.alloc (.cells [Value.int .i64 0, .int .i64 0].toArray 35)) p 65 [] (fun _ => true) := by
    intro k w' hf
    refine calls_go Try.func65 rfl Try.ntmps65 (Nat.le_of_ble_eq_true rfl) ?_
    repeat (first | refine sp ?_ | (refine is_load ?_; refine ld ?_) | (refine is_store ?_; refine sr ?_) | (refine is_alloc ?_; refine al ?_) | (refine is_box ?_; refine bx ?_) | (refine isl_load ?_; refine ldl ?_) | (refine isl_store ?_; refine srl ?_) | (refine isl_alloc ?_; refine all' ?_) | (refine isl_box ?_; refine bxl ?_) | refine dr Try.follows ?_)
    exact go_ret1 rfl rfl ⟨_, rfl, rfl, rfl⟩
  have hall : t.ents.filter (pK fun _ => true) = t.ents := List.filter_eq_self.2 fun e _ => rfl
  refine calls_go Try.func55 rfl Try.ntmps55 (Nat.le_of_ble_eq_true rfl) ?_
  repeat (first | refine sp ?_ | (refine is_load ?_; refine ld ?_) | (refine is_store ?_; refine sr ?_) | (refine is_alloc ?_; refine al ?_) | (refine is_box ?_; refine bx ?_) | (refine isl_load ?_; refine ldl ?_) | (refine isl_store ?_; refine srl ?_) | (refine isl_alloc ?_; refine all' ?_) | (refine isl_box ?_; refine bxl ?_) | refine dr Try.follows ?_)
  refine go_call rfl rfl (c_greatest _ lo p q A t 65 [] _ hAdm (fun a b h1 h2 => rfl) (ha.ext (by (repeat (first | exact Fr.refl _ _ | assumption | apply Fr.drewN | apply Fr.alloc | (apply Fr.transF; assumption) | (refine Fr.setRow ?_ _ (by first | exact Or.inr (by (first | omega | (simp; done) | (simp; omega))) | (exact Or.inl (by first | assumption | (simp; done))))))))) hi he ho hs) ?_
  rintro _ w1 ⟨rfl, B, ha1, hB, hf1⟩
  rw [hall]
  have hF1 : Fr (fun b => b = p) w w1 := Fr.trans (by (repeat (first | exact Fr.refl _ _ | assumption | apply Fr.drewN | apply Fr.alloc | (apply Fr.transF; assumption) | (refine Fr.setRow ?_ _ (by first | exact Or.inr (by (first | omega | (simp; done) | (simp; omega))) | (exact Or.inl (by first | assumption | (simp; done)))))))) hf1
  have hret : At w1 w.heap.size [.int .i64 0, .int .i64 0] 35 := At.fr (At.new _ _ _) hf1 (by omega)
  generalize t.ents.getLast? = o
  unfold entV
  repeat (first | refine sp ?_ | (refine is_load ?_; refine ld ?_) | (refine is_store ?_; refine sr ?_) | (refine is_alloc ?_; refine al ?_) | (refine is_box ?_; refine bx ?_) | (refine isl_load ?_; refine ldl ?_) | (refine isl_store ?_; refine srl ?_) | (refine isl_alloc ?_; refine all' ?_) | (refine isl_box ?_; refine bxl ?_) | refine dr Try.follows ?_)
  exact go_ret2 rfl ⟨_, rfl, Ld.run (ld_part (by (repeat (first | assumption | (refine At.new' (by (first | omega | (simp; done) | (simp; omega))) _ _) | apply At.alloc | apply At.drewN | apply At.setRow | (apply At.setRow_neF; first | assumption | (apply Ne.symm; assumption) | omega) | (apply At.extF; assumption)))) rfl rfl)⟩ rfl ⟨_, rfl, RdR.fin rfl ha ha1 hB hF1 (by (repeat (first | exact Fr.refl _ _ | assumption | apply Fr.drewN | apply Fr.alloc | (apply Fr.transF; assumption) | (refine Fr.setRow ?_ _ (by first | exact Or.inr (by (first | omega | (simp; done) | (simp; omega))) | (exact Or.inl (by first | assumption | (simp; done))))))))⟩


end Go.Proofs.Ytgafapifpoinlaa
