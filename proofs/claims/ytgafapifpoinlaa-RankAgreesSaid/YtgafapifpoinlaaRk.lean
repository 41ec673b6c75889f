/-
  Ranks and selections.
-/
import Derived.Test.YtgafapifpoinlaaRr
set_option linter.unusedVariables false
namespace Go.Proofs.Ytgafapifpoinlaa
open Go.Vc

def befP (eq : Bool) (x : Int) (e : Int × Int) : Bool := if eq = true then decide (e.1 ≤ x) else decide (e.1 < x)
def cntF (p : Int × Int → Bool) (l : List (Int × Int)) : Nat := (l.filter p).length
theorem cntF_le (p : Int × Int → Bool) (l : List (Int × Int)) : cntF p l ≤ l.length := List.length_filter_le p l
theorem cntF_append (p : Int × Int → Bool) (l m : List (Int × Int)) : cntF p (l ++ m) = cntF p l + cntF p m := by unfold cntF; simp
theorem cntF_cons (p : Int × Int → Bool) (x : Int × Int) (m : List (Int × Int)) : cntF p (x :: m) = (if p x = true then 1 else 0) + cntF p m := by
  unfold cntF; rw [List.filter_cons]; split <;> simp; omega
theorem cntF_all {p : Int × Int → Bool} {l : List (Int × Int)} (h : ∀ e ∈ l, p e = true) : cntF p l = l.length := by unfold cntF; rw [List.filter_eq_self.2 h]
theorem cntF_none {p : Int × Int → Bool} {l : List (Int × Int)} (h : ∀ e ∈ l, p e = false) : cntF p l = 0 := by
  unfold cntF; rw [List.filter_eq_nil_iff.2 (fun e he => by rw [h e he]; decide)]; rfl

set_option maxHeartbeats 4000000 in
theorem c_before (w : World) (lo p : Nat) (q : AP) (A : AR) (t : Tr) (x : Int) (eq : Bool) (ha : ArP w lo p q A) (hi : InA A t) (he : InE t.ents) (ho : Srt t.ents) (hs : t.sz ≤ 1000000) :
    Calls Try.prog 58 [ptr p, .int .u32 (t.root : Int), .int .i64 x, .bool eq].toArray w (Ret (RdR w lo p q A (2 * t.ht) (.int .i64 (cntF (befP eq x) t.ents : Int)))) := by
  have hpl := ha.lt p ha.fpp
  refine calls_go Try.func58 rfl Try.ntmps58 (Nat.le_of_ble_eq_true rfl) ?_
  repeat (first | refine sp ?_ | (refine is_load ?_; refine ld ?_) | (refine is_store ?_; refine sr ?_) | (refine is_alloc ?_; refine al ?_) | (refine is_box ?_; refine bx ?_) | (refine isl_load ?_; refine ldl ?_) | (refine isl_store ?_; refine srl ?_) | (refine isl_alloc ?_; refine all' ?_) | (refine isl_box ?_; refine bxl ?_) | refine dr Try.follows ?_)
  refine go_loop (G := Tr × Nat × AR) [10, 9] (fun ⟨t', c, _⟩ => [.int .u32 (t'.root : Int), .int .i64 (c : Int)]) [(0, ptr p), (2, .int .i64 x), (3, .bool eq)]
    (fun ⟨t', c, B⟩ w' => InA B t' ∧ InE t'.ents ∧ Srt t'.ents ∧ c + cntF (befP eq x) t'.ents = cntF (befP eq x) t.ents ∧ c + t'.sz ≤ t.sz ∧ t'.ht ≤ t.ht ∧ Rds A B (2 * (t.ht - t'.ht)) ∧ ArP w' lo p q B ∧ Fr (fun b => b = p) w w')
    (fun g => g.1.sz) (t, 0, A) rfl ⟨rfl, rfl, rfl, trivial⟩
    ⟨hi, he, ho, by omega, by omega, Nat.le_refl _, Rds.refl _ _, ha.ext (by (repeat (first | exact Fr.refl _ _ | assumption | apply Fr.drewN | apply Fr.alloc | (apply Fr.transF; assumption) | (refine Fr.setRow ?_ _ (by first | exact Or.inr (by (first | omega | (simp; done) | (simp; omega))) | (exact Or.inl (by first | assumption | (simp; done)))))))), by (repeat (first | exact Fr.refl _ _ | assumption | apply Fr.drewN | apply Fr.alloc | (apply Fr.transF; assumption) | (refine Fr.setRow ?_ _ (by first | exact Or.inr (by (first | omega | (simp; done) | (simp; omega))) | (exact Or.inl (by first | assumption | (simp; done)))))))⟩ ?_
  rintro ⟨t', c, B⟩ w1 ⟨hi1, he1, ho1, hsum, hn1, hht, hB, ha1, hF1⟩
  cases t' with
  | nil =>
    repeat (first | refine sp ?_ | (refine is_load ?_; refine ld ?_) | (refine is_store ?_; refine sr ?_) | (refine is_alloc ?_; refine al ?_) | (refine is_box ?_; refine bx ?_) | (refine isl_load ?_; refine ldl ?_) | (refine isl_store ?_; refine srl ?_) | (refine isl_alloc ?_; refine all' ?_) | (refine isl_box ?_; refine bxl ?_))
    refine go_ret1 rfl rfl ⟨_, rfl, RdR.fin ?_ ha ha1 (hB.mono (by omega)) hF1 (by (repeat (first | exact Fr.refl _ _ | assumption | apply Fr.drewN | apply Fr.alloc | (apply Fr.transF; assumption) | (refine Fr.setRow ?_ _ (by first | exact Or.inr (by (first | omega | (simp; done) | (simp; omega))) | (exact Or.inl (by first | assumption | (simp; done))))))))⟩
    rw [← hsum]; simp [cntF, Tr.ents]
  | nd i l k v r =>
    have h0 : i ≠ 0 := by have := hi1.1; omega
    refine go_as 10 (u' := .int .u32 (i : Int)) rfl rfl ?_
    obtain ⟨hel, her, hkk, hvv⟩ := he1.nd
    obtain ⟨hol, hor, hlt, hgt⟩ := ho1.nd
    have hsz : (Tr.nd i l k v r).sz = l.sz + 1 + r.sz := rfl
    have hhd : (Tr.nd i l k v r).ht = 1 + max l.ht r.ht := rfl
    have hen : (Tr.nd i l k v r).ents = l.ents ++ (k, v) :: r.ents := rfl
    obtain ⟨hri, hrl, hrr⟩ := hi1.roots ha1.wf
    rw [hen, cntF_append, cntF_cons] at hsum
    have hl1 := hF1.size
    repeat (first | refine sp ?_ | (refine is_load ?_; refine ld ?_) | (refine is_store ?_; refine sr ?_) | (refine is_alloc ?_; refine al ?_) | (refine is_box ?_; refine bx ?_) | (refine isl_load ?_; refine ldl ?_) | (refine isl_store ?_; refine srl ?_) | (refine isl_alloc ?_; refine all' ?_) | (refine isl_box ?_; refine bxl ?_) | refine dr Try.follows ?_)
    refine go_call rfl rfl (p_Node _ lo p q B i ha1 hri) ?_
    rintro _ w2 ⟨rfl, ha2, hf2⟩
    rw [show B.used i = true from hi1.2.1, hi1.nodeL he1 (by omega)]
    generalize smy (Tr.nd i l k v r).vals = S
    have hl2 := hf2.size
    have hi2 := hi1.read i
    by_cases hc : befP eq x (k, v) = true
    · have hall : cntF (befP eq x) l.ents = l.sz := by
        rw [cntF_all, l.len]
        intro e he
        have := hlt e he
        unfold befP at hc ⊢
        split <;> simp_all <;> omega
      have hc' : k < x ∨ (k = x ∧ eq = true) := by
        unfold befP at hc
        split at hc <;> simp at hc
        · rename_i h; rcases Int.lt_or_eq_of_le hc with h' | h'
          · exact Or.inl h'
          · exact Or.inr ⟨h', h⟩
        · exact Or.inl hc
      rcases hc' with hk | ⟨hk, heq⟩
      · repeat (first | refine sp ?_ | (refine is_load ?_; refine ld ?_) | (refine is_store ?_; refine sr ?_) | (refine is_alloc ?_; refine al ?_) | (refine is_box ?_; refine bx ?_) | (refine isl_load ?_; refine ldl ?_) | (refine isl_store ?_; refine srl ?_) | (refine isl_alloc ?_; refine all' ?_) | (refine isl_box ?_; refine bxl ?_) | refine dr Try.follows ?_)
        refine go_name (F := fun w3 => At w3 w2.heap.size [.int .i64 k, .int .i64 v, .int .u32 (l.root : Int), .int .u32 (r.root : Int), .int .i64 S.n, .int .i64 S.s, .int .i64 S.mn, .int .i64 S.mx] 52 ∧ ArP w3 lo p q (B.read i) ∧ Fr (fun b => b = p) w w3 ∧ w2.heap.size + 1 ≤ w3.heap.size) ⟨by (repeat (first | assumption | (refine At.new' (by (first | omega | (simp; done) | (simp; omega))) _ _) | apply At.alloc | apply At.drewN | apply At.setRow | (apply At.setRow_neF; first | assumption | (apply Ne.symm; assumption) | omega) | (apply At.extF; assumption))), ha2.ext (by (repeat (first | exact Fr.refl _ _ | assumption | apply Fr.drewN | apply Fr.alloc | (apply Fr.transF; assumption) | (refine Fr.setRow ?_ _ (by first | exact Or.inr (by (first | omega | (simp; done) | (simp; omega))) | (exact Or.inl (by first | assumption | (simp; done)))))))), (hF1.trans hf2).trans (by (repeat (first | exact Fr.refl _ _ | assumption | apply Fr.drewN | apply Fr.alloc | (apply Fr.transF; assumption) | (refine Fr.setRow ?_ _ (by first | exact Or.inr (by (first | omega | (simp; done) | (simp; omega))) | (exact Or.inl (by first | assumption | (simp; done)))))))), by simp⟩ ?_
        rintro w3 ⟨hat3, ha3, hF3, hl3⟩
        refine go_call rfl rfl (p_Size w3 lo p q (B.read i) l.root ha3 hrl) ?_
        rintro _ w4 ⟨rfl, ha4, hf4⟩
        rw [hi2.2.2.2.1.sizeOf ha3.wf (by omega)]
        have hat4 := hat3.fr hf4 (by omega)
        repeat (first | refine sp ?_ | (refine is_load ?_; refine ld ?_) | (refine is_store ?_; refine sr ?_) | (refine is_alloc ?_; refine al ?_) | (refine is_box ?_; refine bx ?_) | (refine isl_load ?_; refine ldl ?_) | (refine isl_store ?_; refine srl ?_) | (refine isl_alloc ?_; refine all' ?_) | (refine isl_box ?_; refine bxl ?_) | refine dr Try.follows ?_)
        refine go_as 9 (u' := .int .i64 ((c + (l.sz + 1) : Nat) : Int)) rfl (by congr 1) ?_
        refine go_stop (G := Tr × Nat × AR) (r, c + (l.sz + 1), (B.read i).read l.root) rfl ⟨rfl, rfl, rfl, trivial⟩ ⟨(hi2.read l.root).2.2.2.2, her, hor, by rw [if_pos hc, hall] at hsum; omega, by omega, by omega, ((hB.trans (Rds.read B i)).trans (Rds.read _ _)).mono (by omega), ha4.ext (by (repeat (first | exact Fr.refl _ _ | assumption | apply Fr.drewN | apply Fr.alloc | (apply Fr.transF; assumption) | (refine Fr.setRow ?_ _ (by first | exact Or.inr (by (first | omega | (simp; done) | (simp; omega))) | (exact Or.inl (by first | assumption | (simp; done)))))))), (hF3.trans hf4).trans (by (repeat (first | exact Fr.refl _ _ | assumption | apply Fr.drewN | apply Fr.alloc | (apply Fr.transF; assumption) | (refine Fr.setRow ?_ _ (by first | exact Or.inr (by (first | omega | (simp; done) | (simp; omega))) | (exact Or.inl (by first | assumption | (simp; done))))))))⟩ (by show r.sz < l.sz + 1 + r.sz; omega)
      · subst heq
        repeat (first | refine sp ?_ | (refine is_load ?_; refine ld ?_) | (refine is_store ?_; refine sr ?_) | (refine is_alloc ?_; refine al ?_) | (refine is_box ?_; refine bx ?_) | (refine isl_load ?_; refine ldl ?_) | (refine isl_store ?_; refine srl ?_) | (refine isl_alloc ?_; refine all' ?_) | (refine isl_box ?_; refine bxl ?_) | refine dr Try.follows ?_)
        refine go_name (F := fun w3 => At w3 w2.heap.size [.int .i64 k, .int .i64 v, .int .u32 (l.root : Int), .int .u32 (r.root : Int), .int .i64 S.n, .int .i64 S.s, .int .i64 S.mn, .int .i64 S.mx] 52 ∧ ArP w3 lo p q (B.read i) ∧ Fr (fun b => b = p) w w3 ∧ w2.heap.size + 1 ≤ w3.heap.size) ⟨by (repeat (first | assumption | (refine At.new' (by (first | omega | (simp; done) | (simp; omega))) _ _) | apply At.alloc | apply At.drewN | apply At.setRow | (apply At.setRow_neF; first | assumption | (apply Ne.symm; assumption) | omega) | (apply At.extF; assumption))), ha2.ext (by (repeat (first | exact Fr.refl _ _ | assumption | apply Fr.drewN | apply Fr.alloc | (apply Fr.transF; assumption) | (refine Fr.setRow ?_ _ (by first | exact Or.inr (by (first | omega | (simp; done) | (simp; omega))) | (exact Or.inl (by first | assumption | (simp; done)))))))), (hF1.trans hf2).trans (by (repeat (first | exact Fr.refl _ _ | assumption | apply Fr.drewN | apply Fr.alloc | (apply Fr.transF; assumption) | (refine Fr.setRow ?_ _ (by first | exact Or.inr (by (first | omega | (simp; done) | (simp; omega))) | (exact Or.inl (by first | assumption | (simp; done)))))))), by simp⟩ ?_
        rintro w3 ⟨hat3, ha3, hF3, hl3⟩
        refine go_call rfl rfl (p_Size w3 lo p q (B.read i) l.root ha3 hrl) ?_
        rintro _ w4 ⟨rfl, ha4, hf4⟩
        rw [hi2.2.2.2.1.sizeOf ha3.wf (by omega)]
        have hat4 := hat3.fr hf4 (by omega)
        repeat (first | refine sp ?_ | (refine is_load ?_; refine ld ?_) | (refine is_store ?_; refine sr ?_) | (refine is_alloc ?_; refine al ?_) | (refine is_box ?_; refine bx ?_) | (refine isl_load ?_; refine ldl ?_) | (refine isl_store ?_; refine srl ?_) | (refine isl_alloc ?_; refine all' ?_) | (refine isl_box ?_; refine bxl ?_) | refine dr Try.follows ?_)
        refine go_as 9 (u' := .int .i64 ((c + (l.sz + 1) : Nat) : Int)) rfl (by congr 1) ?_
        refine go_stop (G := Tr × Nat × AR) (r, c + (l.sz + 1), (B.read i).read l.root) rfl ⟨rfl, rfl, rfl, trivial⟩ ⟨(hi2.read l.root).2.2.2.2, her, hor, by rw [if_pos hc, hall] at hsum; omega, by omega, by omega, ((hB.trans (Rds.read B i)).trans (Rds.read _ _)).mono (by omega), ha4.ext (by (repeat (first | exact Fr.refl _ _ | assumption | apply Fr.drewN | apply Fr.alloc | (apply Fr.transF; assumption) | (refine Fr.setRow ?_ _ (by first | exact Or.inr (by (first | omega | (simp; done) | (simp; omega))) | (exact Or.inl (by first | assumption | (simp; done)))))))), (hF3.trans hf4).trans (by (repeat (first | exact Fr.refl _ _ | assumption | apply Fr.drewN | apply Fr.alloc | (apply Fr.transF; assumption) | (refine Fr.setRow ?_ _ (by first | exact Or.inr (by (first | omega | (simp; done) | (simp; omega))) | (exact Or.inl (by first | assumption | (simp; done))))))))⟩ (by show r.sz < l.sz + 1 + r.sz; omega)
    · have hc' : x < k ∨ (k = x ∧ eq = false) := by
        unfold befP at hc
        cases eq with
        | false =>
          simp at hc
          rcases Int.lt_or_eq_of_le hc with h | h
          · exact Or.inl h
          · exact Or.inr ⟨h.symm, rfl⟩
        | true => simp at hc; exact Or.inl hc
      have hnone : cntF (befP eq x) r.ents = 0 := cntF_none fun e he => by
        have := hgt e he
        unfold befP
        split <;> simp <;> omega
      rcases hc' with hk | ⟨hk, heq⟩
      · repeat (first | refine sp ?_ | (refine is_load ?_; refine ld ?_) | (refine is_store ?_; refine sr ?_) | (refine is_alloc ?_; refine al ?_) | (refine is_box ?_; refine bx ?_) | (refine isl_load ?_; refine ldl ?_) | (refine isl_store ?_; refine srl ?_) | (refine isl_alloc ?_; refine all' ?_) | (refine isl_box ?_; refine bxl ?_) | refine dr Try.follows ?_)
        refine go_stop (G := Tr × Nat × AR) (l, c, B.read i) rfl ⟨rfl, rfl, rfl, trivial⟩ ⟨hi2.2.2.2.1, hel, hol, by rw [if_neg hc, hnone] at hsum; omega, by omega, by omega, (hB.trans (Rds.read B i)).mono (by omega), ha2.ext (by (repeat (first | exact Fr.refl _ _ | assumption | apply Fr.drewN | apply Fr.alloc | (apply Fr.transF; assumption) | (refine Fr.setRow ?_ _ (by first | exact Or.inr (by (first | omega | (simp; done) | (simp; omega))) | (exact Or.inl (by first | assumption | (simp; done)))))))), (hF1.trans hf2).trans (by (repeat (first | exact Fr.refl _ _ | assumption | apply Fr.drewN | apply Fr.alloc | (apply Fr.transF; assumption) | (refine Fr.setRow ?_ _ (by first | exact Or.inr (by (first | omega | (simp; done) | (simp; omega))) | (exact Or.inl (by first | assumption | (simp; done))))))))⟩ (by show l.sz < l.sz + 1 + r.sz; omega)
      · subst heq
        repeat (first | refine sp ?_ | (refine is_load ?_; refine ld ?_) | (refine is_store ?_; refine sr ?_) | (refine is_alloc ?_; refine al ?_) | (refine is_box ?_; refine bx ?_) | (refine isl_load ?_; refine ldl ?_) | (refine isl_store ?_; refine srl ?_) | (refine isl_alloc ?_; refine all' ?_) | (refine isl_box ?_; refine bxl ?_) | refine dr Try.follows ?_)
        refine go_stop (G := Tr × Nat × AR) (l, c, B.read i) rfl ⟨rfl, rfl, rfl, trivial⟩ ⟨hi2.2.2.2.1, hel, hol, by rw [if_neg hc, hnone] at hsum; omega, by omega, by omega, (hB.trans (Rds.read B i)).mono (by omega), ha2.ext (by (repeat (first | exact Fr.refl _ _ | assumption | apply Fr.drewN | apply Fr.alloc | (apply Fr.transF; assumption) | (refine Fr.setRow ?_ _ (by first | exact Or.inr (by (first | omega | (simp; done) | (simp; omega))) | (exact Or.inl (by first | assumption | (simp; done)))))))), (hF1.trans hf2).trans (by (repeat (first | exact Fr.refl _ _ | assumption | apply Fr.drewN | apply Fr.alloc | (apply Fr.transF; assumption) | (refine Fr.setRow ?_ _ (by first | exact Or.inr (by (first | omega | (simp; done) | (simp; omega))) | (exact Or.inl (by first | assumption | (simp; done))))))))⟩ (by show l.sz < l.sz + 1 + r.sz; omega)

theorem c_Rank (w : World) (lo p : Nat) (q : AP) (A : AR) (t : Tr) (x : Int) (ha : ArP w lo p q A) (hi : InA A t) (he : InE t.ents) (ho : Srt t.ents) (hs : t.sz ≤ 1000000) :
    Calls Try.prog 18 [ptr p, .int .u32 (t.root : Int), .int .i64 x].toArray w (Ret (RdR w lo p q A (2 * t.ht) (.int .i64 (cntF (befP false x) t.ents : Int)))) := by
  refine calls_go Try.func18 rfl Try.ntmps18 (Nat.le_of_ble_eq_true rfl) ?_
  repeat (first | refine sp ?_ | (refine is_load ?_; refine ld ?_) | (refine is_store ?_; refine sr ?_) | (refine is_alloc ?_; refine al ?_) | (refine is_box ?_; refine bx ?_) | (refine isl_load ?_; refine ldl ?_) | (refine isl_store ?_; refine srl ?_) | (refine isl_alloc ?_; refine all' ?_) | (refine isl_box ?_; refine bxl ?_) | refine dr Try.follows ?_)
  refine go_call rfl rfl (c_before w lo p q A t x false ha hi he ho hs) ?_
  rintro _ w1 ⟨rfl, h⟩
  repeat (first | refine sp ?_ | (refine is_load ?_; refine ld ?_) | (refine is_store ?_; refine sr ?_) | (refine is_alloc ?_; refine al ?_) | (refine is_box ?_; refine bx ?_) | (refine isl_load ?_; refine ldl ?_) | (refine isl_store ?_; refine srl ?_) | (refine isl_alloc ?_; refine all' ?_) | (refine isl_box ?_; refine bxl ?_) | refine dr Try.follows ?_)
  exact go_ret1 rfl rfl ⟨_, rfl, rfl, h⟩

/-- How many keys lie in a range. -/
def cntR (x y : Int) (l : List (Int × Int)) : Nat := cntF (fun e => decide (x ≤ e.1 ∧ e.1 ≤ y)) l
theorem cntR_eq {x y : Int} (h : x ≤ y) : ∀ l : List (Int × Int), cntF (befP true y) l = cntR x y l + cntF (befP false x) l
  | [] => rfl
  | e :: l => by
    unfold cntR
    rw [cntF_cons, cntF_cons, cntF_cons]
    have ih := cntR_eq h l
    unfold cntR at ih
    rw [ih]
    have : (if befP true y e = true then 1 else 0) = (if (decide (x ≤ e.1 ∧ e.1 ≤ y)) = true then 1 else 0) + (if befP false x e = true then 1 else 0) := by
      unfold befP
      by_cases h1 : e.1 < x <;> by_cases h2 : e.1 ≤ y <;> simp [h1, h2] <;> omega
    omega
theorem cntR_none {x y : Int} (h : y < x) (l : List (Int × Int)) : cntR x y l = 0 := cntF_none fun e _ => by simp; omega

theorem c_RCount (w : World) (lo p : Nat) (q : AP) (A : AR) (t : Tr) (x y : Int) (ha : ArP w lo p q A) (hi : InA A t) (he : InE t.ents) (ho : Srt t.ents) (hs : t.sz ≤ 1000000) :
    Calls Try.prog 17 [ptr p, .int .u32 (t.root : Int), .int .i64 x, .int .i64 y].toArray w (Ret (RdR w lo p q A (4 * t.ht) (.int .i64 (cntR x y t.ents : Int)))) := by
  refine calls_go Try.func17 rfl Try.ntmps17 (Nat.le_of_ble_eq_true rfl) ?_
  by_cases hxy : y < x
  · repeat (first | refine sp ?_ | (refine is_load ?_; refine ld ?_) | (refine is_store ?_; refine sr ?_) | (refine is_alloc ?_; refine al ?_) | (refine is_box ?_; refine bx ?_) | (refine isl_load ?_; refine ldl ?_) | (refine isl_store ?_; refine srl ?_) | (refine isl_alloc ?_; refine all' ?_) | (refine isl_box ?_; refine bxl ?_) | refine dr Try.follows ?_)
    exact go_ret1 rfl rfl ⟨_, rfl, RdR.fin (by rw [cntR_none hxy]; rfl) ha ha (Rds.refl _ _) (Fr.refl _ _) (Fr.refl _ _)⟩
  · have hb1 := cntF_le (befP true y) t.ents
    have hb2 := cntF_le (befP false x) t.ents
    rw [t.len] at hb1 hb2
    repeat (first | refine sp ?_ | (refine is_load ?_; refine ld ?_) | (refine is_store ?_; refine sr ?_) | (refine is_alloc ?_; refine al ?_) | (refine is_box ?_; refine bx ?_) | (refine isl_load ?_; refine ldl ?_) | (refine isl_store ?_; refine srl ?_) | (refine isl_alloc ?_; refine all' ?_) | (refine isl_box ?_; refine bxl ?_) | refine dr Try.follows ?_)
    refine go_call rfl rfl (c_before w lo p q A t y true ha hi he ho hs) ?_
    rintro _ w1 ⟨rfl, B, ha1, hB, hf1⟩
    repeat (first | refine sp ?_ | (refine is_load ?_; refine ld ?_) | (refine is_store ?_; refine sr ?_) | (refine is_alloc ?_; refine al ?_) | (refine is_box ?_; refine bx ?_) | (refine isl_load ?_; refine ldl ?_) | (refine isl_store ?_; refine srl ?_) | (refine isl_alloc ?_; refine all' ?_) | (refine isl_box ?_; refine bxl ?_) | refine dr Try.follows ?_)
    refine go_call rfl rfl (c_before w1 lo p q B t x false ha1 (hB.inA hi) he ho hs) ?_
    rintro _ w2 ⟨rfl, B2, ha2, hB2, hf2⟩
    have := cntR_eq (show x ≤ y by omega) t.ents
    repeat (first | refine sp ?_ | (refine is_load ?_; refine ld ?_) | (refine is_store ?_; refine sr ?_) | (refine is_alloc ?_; refine al ?_) | (refine is_box ?_; refine bx ?_) | (refine isl_load ?_; refine ldl ?_) | (refine isl_store ?_; refine srl ?_) | (refine isl_alloc ?_; refine all' ?_) | (refine isl_box ?_; refine bxl ?_) | refine dr Try.follows ?_)
    exact go_ret1 rfl rfl ⟨_, rfl, RdR.fin (by congr 1; omega) ha ha2 ((hB.trans hB2).mono (by omega)) (hf1.trans hf2) (Fr.refl _ _)⟩

/-- The entry at a place. -/
def entAt (l : List (Int × Int)) (x : Int) : Option (Int × Int) := if x < 0 then none else l[x.toNat]?
def entV (o : Option (Int × Int)) : Value := .tuple #[.agg ⟨entC (o.getD (0, 0))⟩, .bool o.isSome]

set_option maxHeartbeats 4000000 in
theorem c_Select (w : World) (lo p : Nat) (q : AP) (A : AR) (t : Tr) (x : Int) (ha : ArP w lo p q A) (hi : InA A t) (he : InE t.ents) (hs : t.sz ≤ 1000000) :
    Calls Try.prog 34 [ptr p, .int .u32 (t.root : Int), .int .i64 x].toArray w (Ret (RdR w lo p q A (2 * t.ht + 1) (entV (entAt t.ents x)))) := by
  have hpl := ha.lt p ha.fpp
  have hrt := hi.rootlt ha.wf
  refine calls_go Try.func34 rfl Try.ntmps34 (Nat.le_of_ble_eq_true rfl) ?_
  by_cases hx0 : x < 0
  · repeat (first | refine sp ?_ | (refine is_load ?_; refine ld ?_) | (refine is_store ?_; refine sr ?_) | (refine is_alloc ?_; refine al ?_) | (refine is_box ?_; refine bx ?_) | (refine isl_load ?_; refine ldl ?_) | (refine isl_store ?_; refine srl ?_) | (refine isl_alloc ?_; refine all' ?_) | (refine isl_box ?_; refine bxl ?_) | refine dr Try.follows ?_)
    refine go_ret2 rfl ⟨_, rfl, Ld.run (ld_part (by (repeat (first | assumption | (refine At.new' (by (first | omega | (simp; done) | (simp; omega))) _ _) | apply At.alloc | apply At.drewN | apply At.setRow | (apply At.setRow_neF; first | assumption | (apply Ne.symm; assumption) | omega) | (apply At.extF; assumption)))) rfl rfl)⟩ rfl ⟨_, rfl, RdR.fin ?_ ha ha (Rds.refl _ _) (Fr.refl _ _) (by (repeat (first | exact Fr.refl _ _ | assumption | apply Fr.drewN | apply Fr.alloc | (apply Fr.transF; assumption) | (refine Fr.setRow ?_ _ (by first | exact Or.inr (by (first | omega | (simp; done) | (simp; omega))) | (exact Or.inl (by first | assumption | (simp; done))))))))⟩
    unfold entAt; rw [if_pos hx0]; rfl
  repeat (first | refine sp ?_ | (refine is_load ?_; refine ld ?_) | (refine is_store ?_; refine sr ?_) | (refine is_alloc ?_; refine al ?_) | (refine is_box ?_; refine bx ?_) | (refine isl_load ?_; refine ldl ?_) | (refine isl_store ?_; refine srl ?_) | (refine isl_alloc ?_; refine all' ?_) | (refine isl_box ?_; refine bxl ?_) | refine dr Try.follows ?_)
  refine go_call rfl rfl (p_Size _ lo p q A t.root (ha.ext (by (repeat (first | exact Fr.refl _ _ | assumption | apply Fr.drewN | apply Fr.alloc | (apply Fr.transF; assumption) | (refine Fr.setRow ?_ _ (by first | exact Or.inr (by (first | omega | (simp; done) | (simp; omega))) | (exact Or.inl (by first | assumption | (simp; done))))))))) hrt) ?_
  rintro _ w1 ⟨rfl, ha1, hf1⟩
  rw [hi.sizeOf ha.wf (by omega)]
  have hF1 : Fr (fun b => b = p) w w1 := Fr.trans ((Fr.refl _ _).alloc _) hf1
  have hret : At w1 w.heap.size [.int .i64 0, .int .i64 0] 35 := At.fr (At.new _ _ _) hf1 (by omega)
  have hl1 := hf1.size
  simp at hl1
  by_cases hx1 : (t.sz : Int) ≤ x
  · repeat (first | refine sp ?_ | (refine is_load ?_; refine ld ?_) | (refine is_store ?_; refine sr ?_) | (refine is_alloc ?_; refine al ?_) | (refine is_box ?_; refine bx ?_) | (refine isl_load ?_; refine ldl ?_) | (refine isl_store ?_; refine srl ?_) | (refine isl_alloc ?_; refine all' ?_) | (refine isl_box ?_; refine bxl ?_) | refine dr Try.follows ?_)
    refine go_ret2 rfl ⟨_, rfl, Ld.run (ld_part (by (repeat (first | assumption | (refine At.new' (by (first | omega | (simp; done) | (simp; omega))) _ _) | apply At.alloc | apply At.drewN | apply At.setRow | (apply At.setRow_neF; first | assumption | (apply Ne.symm; assumption) | omega) | (apply At.extF; assumption)))) rfl rfl)⟩ rfl ⟨_, rfl, RdR.fin ?_ ha ha1 ((Rds.read A _).mono (by omega)) hF1 (by (repeat (first | exact Fr.refl _ _ | assumption | apply Fr.drewN | apply Fr.alloc | (apply Fr.transF; assumption) | (refine Fr.setRow ?_ _ (by first | exact Or.inr (by (first | omega | (simp; done) | (simp; omega))) | (exact Or.inl (by first | assumption | (simp; done))))))))⟩
    unfold entAt; rw [if_neg hx0, List.getElem?_eq_none (by rw [t.len]; omega)]; rfl
  repeat (first | refine sp ?_ | (refine is_load ?_; refine ld ?_) | (refine is_store ?_; refine sr ?_) | (refine is_alloc ?_; refine al ?_) | (refine is_box ?_; refine bx ?_) | (refine isl_load ?_; refine ldl ?_) | (refine isl_store ?_; refine srl ?_) | (refine isl_alloc ?_; refine all' ?_) | (refine isl_box ?_; refine bxl ?_) | refine dr Try.follows ?_)
  refine go_loop (G := Tr × Int × AR) [8, 2] (fun ⟨t', y, _⟩ => [.int .u32 (t'.root : Int), .int .i64 y]) [(0, ptr p), (6, ptr w.heap.size)]
    (fun ⟨t', y, B⟩ w' => InA B t' ∧ InE t'.ents ∧ 0 ≤ y ∧ y < t'.sz ∧ entAt t'.ents y = entAt t.ents x ∧ t'.sz ≤ t.sz ∧ t'.ht ≤ t.ht ∧ Rds A B (1 + 2 * (t.ht - t'.ht)) ∧ ArP w' lo p q B ∧ Fr (fun b => b = p) w w' ∧ At w' w.heap.size [.int .i64 0, .int .i64 0] 35 ∧ w.heap.size + 1 ≤ w'.heap.size)
    (fun g => g.1.sz) (t, x, A.read t.root) rfl ⟨rfl, rfl, trivial⟩
    ⟨hi.read _, he, by omega, by omega, rfl, Nat.le_refl _, Nat.le_refl _, (Rds.read A _).mono (by omega), ha1, hF1, hret, hl1⟩ ?_
  clear hret hF1 ha1
  rintro ⟨t', y, B⟩ w1 ⟨hi1, he1, hy0, hy1, hsum, hn1, hht, hB, ha1, hF1, hat0, hl1⟩
  cases t' with
  | nil => simp [Tr.sz] at hy1; omega
  | nd i l k v r =>
    have h0 : i ≠ 0 := by have := hi1.1; omega
    refine go_as 8 (u' := .int .u32 (i : Int)) rfl rfl ?_
    obtain ⟨hel, her, hkk, hvv⟩ := he1.nd
    have hsz : (Tr.nd i l k v r).sz = l.sz + 1 + r.sz := rfl
    have hhd : (Tr.nd i l k v r).ht = 1 + max l.ht r.ht := rfl
    have hen : (Tr.nd i l k v r).ents = l.ents ++ (k, v) :: r.ents := rfl
    have hll := l.len
    obtain ⟨hri, hrl, hrr⟩ := hi1.roots ha1.wf
    repeat (first | refine sp ?_ | (refine is_load ?_; refine ld ?_) | (refine is_store ?_; refine sr ?_) | (refine is_alloc ?_; refine al ?_) | (refine is_box ?_; refine bx ?_) | (refine isl_load ?_; refine ldl ?_) | (refine isl_store ?_; refine srl ?_) | (refine isl_alloc ?_; refine all' ?_) | (refine isl_box ?_; refine bxl ?_) | refine dr Try.follows ?_)
    refine go_call rfl rfl (p_Node _ lo p q B i ha1 hri) ?_
    rintro _ w2 ⟨rfl, ha2, hf2⟩
    rw [show B.used i = true from hi1.2.1, hi1.nodeL he1 (by omega)]
    generalize smy (Tr.nd i l k v r).vals = S
    have hl2 := hf2.size
    have hi2 := hi1.read i
    have hat1 := hat0.fr hf2 (by omega)
    repeat (first | refine sp ?_ | (refine is_load ?_; refine ld ?_) | (refine is_store ?_; refine sr ?_) | (refine is_alloc ?_; refine al ?_) | (refine is_box ?_; refine bx ?_) | (refine isl_load ?_; refine ldl ?_) | (refine isl_store ?_; refine srl ?_) | (refine isl_alloc ?_; refine all' ?_) | (refine isl_box ?_; refine bxl ?_) | refine dr Try.follows ?_)
    refine go_name (F := fun w3 => At w3 w2.heap.size [.int .i64 k, .int .i64 v, .int .u32 (l.root : Int), .int .u32 (r.root : Int), .int .i64 S.n, .int .i64 S.s, .int .i64 S.mn, .int .i64 S.mx] 52 ∧ At w3 w.heap.size [.int .i64 0, .int .i64 0] 35 ∧ ArP w3 lo p q (B.read i) ∧ Fr (fun b => b = p) w w3 ∧ w2.heap.size + 1 ≤ w3.heap.size) ⟨by (repeat (first | assumption | (refine At.new' (by (first | omega | (simp; done) | (simp; omega))) _ _) | apply At.alloc | apply At.drewN | apply At.setRow | (apply At.setRow_neF; first | assumption | (apply Ne.symm; assumption) | omega) | (apply At.extF; assumption))), by (repeat (first | assumption | (refine At.new' (by (first | omega | (simp; done) | (simp; omega))) _ _) | apply At.alloc | apply At.drewN | apply At.setRow | (apply At.setRow_neF; first | assumption | (apply Ne.symm; assumption) | omega) | (apply At.extF; assumption))), ha2.ext (by (repeat (first | exact Fr.refl _ _ | assumption | apply Fr.drewN | apply Fr.alloc | (apply Fr.transF; assumption) | (refine Fr.setRow ?_ _ (by first | exact Or.inr (by (first | omega | (simp; done) | (simp; omega))) | (exact Or.inl (by first | assumption | (simp; done)))))))), (hF1.trans hf2).trans (by (repeat (first | exact Fr.refl _ _ | assumption | apply Fr.drewN | apply Fr.alloc | (apply Fr.transF; assumption) | (refine Fr.setRow ?_ _ (by first | exact Or.inr (by (first | omega | (simp; done) | (simp; omega))) | (exact Or.inl (by first | assumption | (simp; done)))))))), by simp⟩ ?_
    rintro w3 ⟨hat3, hat2, ha3, hF3, hl3⟩
    refine go_call rfl rfl (p_Size w3 lo p q (B.read i) l.root ha3 hrl) ?_
    rintro _ w4 ⟨rfl, ha4, hf4⟩
    rw [hi2.2.2.2.1.sizeOf ha3.wf (by omega)]
    have hat4 := hat3.fr hf4 (by omega)
    have hat5 := hat2.fr hf4 (by omega)
    have hl4 := hf4.size
    have hB4 := (hB.trans (Rds.read B i)).trans (Rds.read (B.read i) l.root)
    by_cases hc1 : y < l.sz
    · repeat (first | refine sp ?_ | (refine is_load ?_; refine ld ?_) | (refine is_store ?_; refine sr ?_) | (refine is_alloc ?_; refine al ?_) | (refine is_box ?_; refine bx ?_) | (refine isl_load ?_; refine ldl ?_) | (refine isl_store ?_; refine srl ?_) | (refine isl_alloc ?_; refine all' ?_) | (refine isl_box ?_; refine bxl ?_) | refine dr Try.follows ?_)
      refine go_stop (G := Tr × Int × AR) (l, y, (B.read i).read l.root) rfl ⟨rfl, rfl, trivial⟩ ⟨(hi2.read l.root).2.2.2.1, hel, hy0, hc1, ?_, by omega, by omega, hB4.mono (by omega), ha4.ext (by (repeat (first | exact Fr.refl _ _ | assumption | apply Fr.drewN | apply Fr.alloc | (apply Fr.transF; assumption) | (refine Fr.setRow ?_ _ (by first | exact Or.inr (by (first | omega | (simp; done) | (simp; omega))) | (exact Or.inl (by first | assumption | (simp; done)))))))), (hF3.trans hf4).trans (by (repeat (first | exact Fr.refl _ _ | assumption | apply Fr.drewN | apply Fr.alloc | (apply Fr.transF; assumption) | (refine Fr.setRow ?_ _ (by first | exact Or.inr (by (first | omega | (simp; done) | (simp; omega))) | (exact Or.inl (by first | assumption | (simp; done)))))))), by (repeat (first | assumption | (refine At.new' (by (first | omega | (simp; done) | (simp; omega))) _ _) | apply At.alloc | apply At.drewN | apply At.setRow | (apply At.setRow_neF; first | assumption | (apply Ne.symm; assumption) | omega) | (apply At.extF; assumption))), by omega⟩ (by show l.sz < l.sz + 1 + r.sz; omega)
      rw [← hsum, hen]
      unfold entAt
      rw [if_neg (by omega), if_neg (by omega), List.getElem?_append_left (by omega)]
    by_cases hc2 : l.sz < y
    · repeat (first | refine sp ?_ | (refine is_load ?_; refine ld ?_) | (refine is_store ?_; refine sr ?_) | (refine is_alloc ?_; refine al ?_) | (refine is_box ?_; refine bx ?_) | (refine isl_load ?_; refine ldl ?_) | (refine isl_store ?_; refine srl ?_) | (refine isl_alloc ?_; refine all' ?_) | (refine isl_box ?_; refine bxl ?_) | refine dr Try.follows ?_)
      refine go_stop (G := Tr × Int × AR) (r, y - (l.sz + 1), (B.read i).read l.root) rfl ⟨rfl, rfl, trivial⟩ ⟨(hi2.read l.root).2.2.2.2, her, by omega, by omega, ?_, by omega, by omega, hB4.mono (by omega), ha4.ext (by (repeat (first | exact Fr.refl _ _ | assumption | apply Fr.drewN | apply Fr.alloc | (apply Fr.transF; assumption) | (refine Fr.setRow ?_ _ (by first | exact Or.inr (by (first | omega | (simp; done) | (simp; omega))) | (exact Or.inl (by first | assumption | (simp; done)))))))), (hF3.trans hf4).trans (by (repeat (first | exact Fr.refl _ _ | assumption | apply Fr.drewN | apply Fr.alloc | (apply Fr.transF; assumption) | (refine Fr.setRow ?_ _ (by first | exact Or.inr (by (first | omega | (simp; done) | (simp; omega))) | (exact Or.inl (by first | assumption | (simp; done)))))))), by (repeat (first | assumption | (refine At.new' (by (first | omega | (simp; done) | (simp; omega))) _ _) | apply At.alloc | apply At.drewN | apply At.setRow | (apply At.setRow_neF; first | assumption | (apply Ne.symm; assumption) | omega) | (apply At.extF; assumption))), by omega⟩ (by show r.sz < l.sz + 1 + r.sz; omega)
      rw [← hsum, hen]
      unfold entAt
      rw [if_neg (by omega), if_neg (by omega), List.getElem?_append_right (by omega)]
      obtain ⟨j, hj⟩ : ∃ j : Nat, y.toNat - l.ents.length = j + 1 := ⟨y.toNat - l.ents.length - 1, by omega⟩
      rw [hj, List.getElem?_cons_succ]
      congr 1; omega
    · repeat (first | refine sp ?_ | (refine is_load ?_; refine ld ?_) | (refine is_store ?_; refine sr ?_) | (refine is_alloc ?_; refine al ?_) | (refine is_box ?_; refine bx ?_) | (refine isl_load ?_; refine ldl ?_) | (refine isl_store ?_; refine srl ?_) | (refine isl_alloc ?_; refine all' ?_) | (refine isl_box ?_; refine bxl ?_) | refine dr Try.follows ?_)
      refine go_ret2 rfl ⟨_, rfl, Ld.run (ld_part (by (repeat (first | assumption | (refine At.new' (by (first | omega | (simp; done) | (simp; omega))) _ _) | apply At.alloc | apply At.drewN | apply At.setRow | (apply At.setRow_neF; first | assumption | (apply Ne.symm; assumption) | omega) | (apply At.extF; assumption)))) rfl rfl)⟩ rfl ⟨_, rfl, RdR.fin ?_ ha ha4 (hB4.mono (by omega)) (hF3.trans hf4) (by (repeat (first | exact Fr.refl _ _ | assumption | apply Fr.drewN | apply Fr.alloc | (apply Fr.transF; assumption) | (refine Fr.setRow ?_ _ (by first | exact Or.inr (by (first | omega | (simp; done) | (simp; omega))) | (exact Or.inl (by first | assumption | (simp; done))))))))⟩
      rw [← hsum, hen]
      unfold entAt
      rw [if_neg (by omega), List.getElem?_append_right (by omega), show y.toNat - l.ents.length = 0 by omega]
      rfl

theorem c_Median (w : World) (lo p : Nat) (q : AP) (A : AR) (t : Tr) (ha : ArP w lo p q A) (hi : InA A t) (he : InE t.ents) (hs : t.sz ≤ 1000000) :
    Calls Try.prog 53 [ptr p, .int .u32 (t.root : Int)].toArray w (Ret (RdR w lo p q A (2 * t.ht + 2) (entV (entAt t.ents (((t.sz : Int) + 1) / 2 - 1))))) := by
  have hpl := ha.lt p ha.fpp
  have hrt := hi.rootlt ha.wf
  refine calls_go Try.func53 rfl Try.ntmps53 (Nat.le_of_ble_eq_true rfl) ?_
  repeat (first | refine sp ?_ | (refine is_load ?_; refine ld ?_) | (refine is_store ?_; refine sr ?_) | (refine is_alloc ?_; refine al ?_) | (refine is_box ?_; refine bx ?_) | (refine isl_load ?_; refine ldl ?_) | (refine isl_store ?_; refine srl ?_) | (refine isl_alloc ?_; refine all' ?_) | (refine isl_box ?_; refine bxl ?_) | refine dr Try.follows ?_)
  refine go_call rfl rfl (p_Size _ lo p q A t.root (ha.ext (by (repeat (first | exact Fr.refl _ _ | assumption | apply Fr.drewN | apply Fr.alloc | (apply Fr.transF; assumption) | (refine Fr.setRow ?_ _ (by first | exact Or.inr (by (first | omega | (simp; done) | (simp; omega))) | (exact Or.inl (by first | assumption | (simp; done))))))))) hrt) ?_
  rintro _ w1 ⟨rfl, ha1, hf1⟩
  rw [hi.sizeOf ha.wf (by omega)]
  have hF1 : Fr (fun b => b = p) w w1 := Fr.trans ((Fr.refl _ _).alloc _) hf1
  have hret : At w1 w.heap.size [.int .i64 0, .int .i64 0] 35 := At.fr (At.new _ _ _) hf1 (by omega)
  have hl1 := hf1.size
  simp at hl1
  by_cases h0 : t.sz = 0
  · repeat (first | refine sp ?_ | (refine is_load ?_; refine ld ?_) | (refine is_store ?_; refine sr ?_) | (refine is_alloc ?_; refine al ?_) | (refine is_box ?_; refine bx ?_) | (refine isl_load ?_; refine ldl ?_) | (refine isl_store ?_; refine srl ?_) | (refine isl_alloc ?_; refine all' ?_) | (refine isl_box ?_; refine bxl ?_) | refine dr Try.follows ?_)
    refine go_ret2 rfl ⟨_, rfl, Ld.run (ld_part (by (repeat (first | assumption | (refine At.new' (by (first | omega | (simp; done) | (simp; omega))) _ _) | apply At.alloc | apply At.drewN | apply At.setRow | (apply At.setRow_neF; first | assumption | (apply Ne.symm; assumption) | omega) | (apply At.extF; assumption)))) rfl rfl)⟩ rfl ⟨_, rfl, RdR.fin ?_ ha ha1 ((Rds.read A _).mono (by omega)) hF1 (by (repeat (first | exact Fr.refl _ _ | assumption | apply Fr.drewN | apply Fr.alloc | (apply Fr.transF; assumption) | (refine Fr.setRow ?_ _ (by first | exact Or.inr (by (first | omega | (simp; done) | (simp; omega))) | (exact Or.inl (by first | assumption | (simp; done))))))))⟩
    unfold entAt; rw [if_pos (by omega)]; rfl
  · repeat (first | refine sp ?_ | (refine is_load ?_; refine ld ?_) | (refine is_store ?_; refine sr ?_) | (refine is_alloc ?_; refine al ?_) | (refine is_box ?_; refine bx ?_) | (refine isl_load ?_; refine ldl ?_) | (refine isl_store ?_; refine srl ?_) | (refine isl_alloc ?_; refine all' ?_) | (refine isl_box ?_; refine bxl ?_) | refine dr Try.follows ?_)
    refine go_call rfl rfl (c_Select w1 lo p q _ t (((t.sz : Int) - 1) / 2) ha1 (hi.read _) he hs) ?_
    rintro _ w2 ⟨rfl, B2, ha2, hB2, hf2⟩
    rw [show ((t.sz : Int) - 1) / 2 = ((t.sz : Int) + 1) / 2 - 1 by omega]
    have hat2 := hret.fr hf2 (by omega)
    generalize entAt t.ents (((t.sz : Int) + 1) / 2 - 1) = o
    unfold entV
    repeat (first | refine sp ?_ | (refine is_load ?_; refine ld ?_) | (refine is_store ?_; refine sr ?_) | (refine is_alloc ?_; refine al ?_) | (refine is_box ?_; refine bx ?_) | (refine isl_load ?_; refine ldl ?_) | (refine isl_store ?_; refine srl ?_) | (refine isl_alloc ?_; refine all' ?_) | (refine isl_box ?_; refine bxl ?_) | refine dr Try.follows ?_)
    exact go_ret2 rfl ⟨_, rfl, Ld.run (ld_part (by (repeat (first | assumption | (refine At.new' (by (first | omega | (simp; done) | (simp; omega))) _ _) | apply At.alloc | apply At.drewN | apply At.setRow | (apply At.setRow_neF; first | assumption | (apply Ne.symm; assumption) | omega) | (apply At.extF; assumption)))) rfl rfl)⟩ rfl ⟨_, rfl, RdR.fin rfl ha ha2 (((Rds.read A _).trans hB2).mono (by omega)) (hF1.trans hf2) (by (repeat (first | exact Fr.refl _ _ | assumption | apply Fr.drewN | apply Fr.alloc | (apply Fr.transF; assumption) | (refine Fr.setRow ?_ _ (by first | exact Or.inr (by (first | omega | (simp; done) | (simp; omega))) | (exact Or.inl (by first | assumption | (simp; done))))))))⟩

end Go.Proofs.Ytgafapifpoinlaa
