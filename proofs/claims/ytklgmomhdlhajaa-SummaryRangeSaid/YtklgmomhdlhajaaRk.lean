/-
  Ranks and selections.
-/
import Derived.Test.YtklgmomhdlhajaaRr
set_option linter.unusedVariables false
namespace Go.Proofs.Ytklgmomhdlhajaa
open Go.Vc

def befP (eq : Bool) (x : Int) (e : Int × Int) : Bool := if eq = true then decide (e.1 ≤ x) else decide (e.1 < x)
def cntF (p : Int × Int → Bool) (l : List (Int × Int)) : Nat := (l.filter p).length
theorem cntF_le (p : Int × Int → Bool) (l : List (Int × Int)) : cntF p l ≤ l.length := List.length_filter_le p l
theorem cntF_append (p : Int × Int → Bool) (l m : List (Int × Int)) : cntF p (l ++ m) = cntF p l + cntF p m := by unfold cntF; simp
theorem cntF_cons (p : Int × Int → Bool) (x : Int × Int) (m : List (Int × Int)) : cntF p (x :: m) = (if p x = true then 1 else 0) + cntF p m := by
  unfold cntF; rw [List.filter_cons]; split <;> simp; omega
theorem cntF_all {p : Int × Int → Bool} {l : List (Int × Int)} (h : ∀ e ∈ l, p e = true) : cntF p l = l.length := by unfold cntF; rw [List.filter_eq_self.2 h]
theorem cntF_none {p : Int × Int → Bool} {l : List (Int × Int)} (h : ∀ e ∈ l, p e = false) : cntF p l = 0 := by
  unfold cntF; rw [List.filter_eq_nil_iff.2 (fun e he => by rw [h e he]; decide)]; rfl

set_option maxHeartbeats 4000000 in
theorem c_before (w : World) (lo p : Nat) (q : AP) (A : AR) (t : Tr) (x : Int) (eq : Bool) (ha : ArP w lo p q A) (hi : InA A t) (he : InE t.ents) (ho : Srt t.ents) (hs : t.sz ≤ 1000000) :
    Calls Try.prog 51 [ptr p, .int .u32 (t.root : Int), .int .i64 x, .bool eq].toArray w (Ret (RdR w lo p q A (2 * t.ht) (.int .i64 (cntF (befP eq x) t.ents : Int)))) := by
  have hpl := ha.lt p ha.fpp
  refine calls_go Try.func51 rfl Try.ntmps51 (Nat.le_of_ble_eq_true rfl) ?_
  repeat (first | refine sp ?_ | (refine is_load ?_; refine ld ?_) | (refine is_store ?_; refine sr ?_) | (refine is_alloc ?_; refine al ?_) | (refine is_box ?_; refine bx ?_) | (refine isl_load ?_; refine ldl ?_) | (refine isl_store ?_; refine srl ?_) | (refine isl_alloc ?_; refine all' ?_) | (refine isl_box ?_; refine bxl ?_) | refine dr Try.follows ?_)
  refine go_loop (G := Tr × Nat × AR) [10, 9] (fun ⟨t', c, _⟩ => [.int .u32 (t'.root : Int), .int .i64 (c : Int)]) [(0, ptr p), (2, .int .i64 x), (3, .bool eq)]
    (fun ⟨t', c, B⟩ w' => InA B t' ∧ InE t'.ents ∧ Srt t'.ents ∧ c + cntF (befP eq x) t'.ents = cntF (befP eq x) t.ents ∧ c + t'.sz ≤ t.sz ∧ t'.ht ≤ t.ht ∧ Rds A B (2 * (t.ht - t'.ht)) ∧ ArP w' lo p q B ∧ Fr (fun b => b = p) w w')
    (fun g => g.1.sz) (t, 0, A) rfl ⟨rfl, rfl, rfl, trivial⟩
    ⟨hi, he, ho, by omega, by omega, Nat.le_refl _, Rds.refl _ _, ha.ext (by (repeat (first | exact Fr.refl _ _ | assumption | apply Fr.drewN | apply Fr.alloc | (apply Fr.transF; assumption) | (refine Fr.setRow ?_ _ (by first | exact Or.inr (by (first | omega | (simp; done) | (simp; omega))) | (exact Or.inl (by first | assumption | (simp; done)))))))), by (repeat (first | exact Fr.refl _ _ | assumption | apply Fr.drewN | apply Fr.alloc | (apply Fr.transF; assumption) | (refine Fr.setRow ?_ _ (by first | exact Or.inr (by (first | omega | (simp; done) | (simp; omega))) | (exact Or.inl (by first | assumption | (simp; done)))))))⟩ ?_
  rintro ⟨t', c, B⟩ w1 ⟨hi1, he1, ho1, hsum, hn1, hht, hB, ha1, hF1⟩
  cases t' with
  | nil =>
    repeat (first | refine sp ?_ | (refine is_load ?_; refine ld ?_) | (refine is_store ?_; refine sr ?_) | (refine is_alloc ?_; refine al ?_) | (refine is_box ?_; refine bx ?_) | (refine isl_load ?_; refine ldl ?_) | (refine isl_store ?_; refine srl ?_) | (refine isl_alloc ?_; refine all' ?_) | (refine isl_box ?_; refine bxl ?_))
    refine go_ret1 rfl rfl ⟨_, rfl, RdR.fin ?_ ha ha1 (hB.mono (by omega)) hF1 (by (repeat (first | exact Fr.refl _ _ | assumption | apply Fr.drewN | apply Fr.alloc | (apply Fr.transF; assumption) | (refine Fr.setRow ?_ _ (by first | exact Or.inr (by (first | omega | (simp; done) | (simp; omega))) | (exact Or.inl (by first | assumption | (simp; done))))))))⟩
    rw [← hsum]; simp [cntF, Tr.ents]
  | nd i l k v r =>
    have h0 : i ≠ 0 := by have := hi1.1; omega
    refine go_as 10 (u' := .int .u32 (i : Int)) rfl rfl ?_
    obtain ⟨hel, her, hkk, hvv⟩ := he1.nd
    obtain ⟨hol, hor, hlt, hgt⟩ := ho1.nd
    have hsz : (Tr.nd i l k v r).sz = l.sz + 1 + r.sz := rfl
    have hhd : (Tr.nd i l k v r).ht = 1 + max l.ht r.ht := rfl
    have hen : (Tr.nd i l k v r).ents = l.ents ++ (k, v) :: r.ents := rfl
    obtain ⟨hri, hrl, hrr⟩ := hi1.roots ha1.wf
    rw [hen, cntF_append, cntF_cons] at hsum
    have hl1 := hF1.size
    repeat (first | refine sp ?_ | (refine is_load ?_; refine ld ?_) | (refine is_store ?_; refine sr ?_) | (refine is_alloc ?_; refine al ?_) | (refine is_box ?_; refine bx ?_) | (refine isl_load ?_; refine ldl ?_) | (refine isl_store ?_; refine srl ?_) | (refine isl_alloc ?_; refine all' ?_) | (refine isl_box ?_; refine bxl ?_) | refine dr Try.follows ?_)
    refine go_call rfl rfl (p_Node _ lo p q B i ha1 hri) ?_
    rintro _ w2 ⟨rfl, ha2, hf2⟩
    rw [show B.used i = true from hi1.2.1, hi1.nodeL he1 (by omega)]
    generalize smy (Tr.nd i l k v r).vals = S
    have hl2 := hf2.size
    have hi2 := hi1.read i
    by_cases hc : befP eq x (k, v) = true
    · have hall : cntF (befP eq x) l.ents = l.sz := by
        rw [cntF_all, l.len]
        intro e he
        have := hlt e he
        unfold befP at hc ⊢
        split <;> simp_all <;> omega
      have hc' : k < x ∨ (k = x ∧ eq = true) := by
        unfold befP at hc
        split at hc <;> simp at hc
        · rename_i h; rcases Int.lt_or_eq_of_le hc with h' | h'
          · exact Or.inl h'
          · exact Or.inr ⟨h', h⟩
        · exact Or.inl hc
      rcases hc' with hk | ⟨hk, heq⟩
      · repeat (first | refine sp ?_ | (refine is_load ?_; refine ld ?_) | (refine is_store ?_; refine sr ?_) | (refine is_alloc ?_; refine al ?_) | (refine is_box ?_; refine bx ?_) | (refine isl_load ?_; refine ldl ?_) | (refine isl_store ?_; refine srl ?_) | (refine isl_alloc ?_; refine all' ?_) | (refine isl_box ?_; refine bxl ?_) | refine dr Try.follows ?_)
        refine go_name (F := fun w3 => At w3 w2.heap.size [.int .i64 k, .int .i64 v, .int .u32 (l.root : Int), .int .u32 (r.root : Int), .int .i64 S.n, .int .i64 S.s, .int .i64 S.mn, .int .i64 S.mx] 64 ∧ ArP w3 lo p q (B.read i) ∧ Fr (fun b => b = p) w w3 ∧ w2.heap.size + 1 ≤ w3.heap.size) ⟨by (repeat (first | assumption | (refine At.new' (by (first | omega | (simp; done) | (simp; omega))) _ _) | apply At.alloc | apply At.drewN | apply At.setRow | (apply At.setRow_neF; first | assumption | (apply Ne.symm; assumption) | omega) | (apply At.extF; assumption))), ha2.ext (by (repeat (first | exact Fr.refl _ _ | assumption | apply Fr.drewN | apply Fr.alloc | (apply Fr.transF; assumption) | (refine Fr.setRow ?_ _ (by first | exact Or.inr (by (first | omega | (simp; done) | (simp; omega))) | (exact Or.inl (by first | assumption | (simp; done)))))))), (hF1.trans hf2).trans (by (repeat (first | exact Fr.refl _ _ | assumption | apply Fr.drewN | apply Fr.alloc | (apply Fr.transF; assumption) | (refine Fr.setRow ?_ _ (by first | exact Or.inr (by (first | omega | (simp; done) | (simp; omega))) | (exact Or.inl (by first | assumption | (simp; done)))))))), by simp⟩ ?_
        rintro w3 ⟨hat3, ha3, hF3, hl3⟩
        refine go_call rfl rfl (p_Size w3 lo p q (B.read i) l.root ha3 hrl) ?_
        rintro _ w4 ⟨rfl, ha4, hf4⟩
        rw [hi2.2.2.2.1.sizeOf ha3.wf (by omega)]
        have hat4 := hat3.fr hf4 (by omega)
        repeat (first | refine sp ?_ | (refine is_load ?_; refine ld ?_) | (refine is_store ?_; refine sr ?_) | (refine is_alloc ?_; refine al ?_) | (refine is_box ?_; refine bx ?_) | (refine isl_load ?_; refine ldl ?_) | (refine isl_store ?_; refine srl ?_) | (refine isl_alloc ?_; refine all' ?_) | (refine isl_box ?_; refine bxl ?_) | refine dr Try.follows ?_)
        refine go_as 9 (u' := .int .i64 ((c + (l.sz + 1) : Nat) : Int)) rfl (by congr 1) ?_
        refine go_stop (G := Tr × Nat × AR) (r, c + (l.sz + 1), (B.read i).read l.root) rfl ⟨rfl, rfl, rfl, trivial⟩ ⟨(hi2.read l.root).2.2.2.2, her, hor, by rw [if_pos hc, hall] at hsum; omega, by omega, by omega, ((hB.trans (Rds.read B i)).trans (Rds.read _ _)).mono (by omega), ha4.ext (by (repeat (first | exact Fr.refl _ _ | assumption | apply Fr.drewN | apply Fr.alloc | (apply Fr.transF; assumption) | (refine Fr.setRow ?_ _ (by first | exact Or.inr (by (first | omega | (simp; done) | (simp; omega))) | (exact Or.inl (by first | assumption | (simp; done)))))))), (hF3.trans hf4).trans (by (repeat (first | exact Fr.refl _ _ | assumption | apply Fr.drewN | apply Fr.alloc | (apply Fr.transF; assumption) | (refine Fr.setRow ?_ _ (by first | exact Or.inr (by (first | omega | (simp; done) | (simp; omega))) | (exact Or.inl (by first | assumption | (simp; done))))))))⟩ (by show r.sz < l.sz + 1 + r.sz; omega)
      · subst heq
        repeat (first | refine sp ?_ | (refine is_load ?_; refine ld ?_) | (refine is_store ?_; refine sr ?_) | (refine is_alloc ?_; refine al ?_) | (refine is_box ?_; refine bx ?_) | (refine isl_load ?_; refine ldl ?_) | (refine isl_store ?_; refine srl ?_) | (refine isl_alloc ?_; refine all' ?_) | (refine isl_box ?_; refine bxl ?_) | refine dr Try.follows ?_)
        refine go_name (F := fun w3 => At w3 w2.heap.size [.int .i64 k, .int .i64 v, .int .u32 (l.root : Int), .int .u32 (r.root : Int), .int .i64 S.n, .int .i64 S.s, .int .i64 S.mn, .int .i64 S.mx] 64 ∧ ArP w3 lo p q (B.read i) ∧ Fr (fun b => b = p) w w3 ∧ w2.heap.size + 1 ≤ w3.heap.size) ⟨by (repeat (first | assumption | (refine At.new' (by (first | omega | (simp; done) | (simp; omega))) _ _) | apply At.alloc | apply At.drewN | apply At.setRow | (apply At.setRow_neF; first | assumption | (apply Ne.symm; assumption) | omega) | (apply At.extF; assumption))), ha2.ext (by (repeat (first | exact Fr.refl _ _ | assumption | apply Fr.drewN | apply Fr.alloc | (apply Fr.transF; assumption) | (refine Fr.setRow ?_ _ (by first | exact Or.inr (by (first | omega | (simp; done) | (simp; omega))) | (exact Or.inl (by first | assumption | (simp; done)))))))), (hF1.trans hf2).trans (by (repeat (first | exact Fr.refl _ _ | assumption | apply Fr.drewN | apply Fr.alloc | (apply Fr.transF; assumption) | (refine Fr.setRow ?_ _ (by first | exact Or.inr (by (first | omega | (simp; done) | (simp; omega))) | (exact Or.inl (by first | assumption | (simp; done)))))))), by simp⟩ ?_
        rintro w3 ⟨hat3, ha3, hF3, hl3⟩
        refine go_call rfl rfl (p_Size w3 lo p q (B.read i) l.root ha3 hrl) ?_
        rintro _ w4 ⟨rfl, ha4, hf4⟩
        rw [hi2.2.2.2.1.sizeOf ha3.wf (by omega)]
        have hat4 := hat3.fr hf4 (by omega)
        repeat (first | refine sp ?_ | (refine is_load ?_; refine ld ?_) | (refine is_store ?_; refine sr ?_) | (refine is_alloc ?_; refine al ?_) | (refine is_box ?_; refine bx ?_) | (refine isl_load ?_; refine ldl ?_) | (refine isl_store ?_; refine srl ?_) | (refine isl_alloc ?_; refine all' ?_) | (refine isl_box ?_; refine bxl ?_) | refine dr Try.follows ?_)
        refine go_as 9 (u' := .int .i64 ((c + (l.sz + 1) : Nat) : Int)) rfl (by congr 1) ?_
        refine go_stop (G := Tr × Nat × AR) (r, c + (l.sz + 1), (B.read i).read l.root) rfl ⟨rfl, rfl, rfl, trivial⟩ ⟨(hi2.read l.root).2.2.2.2, her, hor, by rw [if_pos hc, hall] at hsum; omega, by omega, by omega, ((hB.trans (Rds.read B i)).trans (Rds.read _ _)).mono (by omega), ha4.ext (by (repeat (first | exact Fr.refl _ _ | assumption | apply Fr.drewN | apply Fr.alloc | (apply Fr.transF; assumption) | (refine Fr.setRow ?_ _ (by first | exact Or.inr (by (first | omega | (simp; done) | (simp; omega))) | (exact Or.inl (by first | assumption | (simp; done)))))))), (hF3.trans hf4).trans (by (repeat (first | exact Fr.refl _ _ | assumption | apply Fr.drewN | apply Fr.alloc | (apply Fr.transF; assumption) | (refine Fr.setRow ?_ _ (by first | exact Or.inr (by (first | omega | (simp; done) | (simp; omega))) | (exact Or.inl (by first | assumption | (simp; done))))))))⟩ (by show r.sz < l.sz + 1 + r.sz; omega)
    · have hc' : x < k ∨ (k = x ∧ eq = false) := by
        unfold befP at hc
        cases eq with
        | false =>
          simp at hc
          rcases Int.lt_or_eq_of_le hc with h | h
          · exact Or.inl h
          · exact Or.inr ⟨h.symm, rfl⟩
        | true => simp at hc; exact Or.inl hc
      have hnone : cntF (befP eq x) r.ents = 0 := cntF_none fun e he => by
        have := hgt e he
        unfold befP
        split <;> simp <;> omega
      rcases hc' with hk | ⟨hk, heq⟩
      · repeat (first | refine sp ?_ | (refine is_load ?_; refine ld ?_) | (refine is_store ?_; refine sr ?_) | (refine is_alloc ?_; refine al ?_) | (refine is_box ?_; refine bx ?_) | (refine isl_load ?_; refine ldl ?_) | (refine isl_store ?_; refine srl ?_) | (refine isl_alloc ?_; refine all' ?_) | (refine isl_box ?_; refine bxl ?_) | refine dr Try.follows ?_)
        refine go_stop (G := Tr × Nat × AR) (l, c, B.read i) rfl ⟨rfl, rfl, rfl, trivial⟩ ⟨hi2.2.2.2.1, hel, hol, by rw [if_neg hc, hnone] at hsum; omega, by omega, by omega, (hB.trans (Rds.read B i)).mono (by omega), ha2.ext (by (repeat (first | exact Fr.refl _ _ | assumption | apply Fr.drewN | apply Fr.alloc | (apply Fr.transF; assumption) | (refine Fr.setRow ?_ _ (by first | exact Or.inr (by (first | omega | (simp; done) | (simp; omega))) | (exact Or.inl (by first | assumption | (simp; done)))))))), (hF1.trans hf2).trans (by (repeat (first | exact Fr.refl _ _ | assumption | apply Fr.drewN | apply Fr.alloc | (apply Fr.transF; assumption) | (refine Fr.setRow ?_ _ (by first | exact Or.inr (by (first | omega | (simp; done) | (simp; omega))) | (exact Or.inl (by first | assumption | (simp; done))))))))⟩ (by show l.sz < l.sz + 1 + r.sz; omega)
      · subst heq
        repeat (first | refine sp ?_ | (refine is_load ?_; refine ld ?_) | (refine is_store ?_; refine sr ?_) | (refine is_alloc ?_; refine al ?_) | (refine is_box ?_; refine bx ?_) | (refine isl_load ?_; refine ldl ?_) | (refine isl_store ?_; refine srl ?_) | (refine isl_alloc ?_; refine all' ?_) | (refine isl_box ?_; refine bxl ?_) | refine dr Try.follows ?_)
        refine go_stop (G := Tr × Nat × AR) (l, c, B.read i) rfl ⟨rfl, rfl, rfl, trivial⟩ ⟨hi2.2.2.2.1, hel, hol, by rw [if_neg hc, hnone] at hsum; omega, by omega, by omega, (hB.trans (Rds.read B i)).mono (by omega), ha2.ext (by (repeat (first | exact Fr.refl _ _ | assumption | apply Fr.drewN | apply Fr.alloc | (apply Fr.transF; assumption) | (refine Fr.setRow ?_ _ (by first | exact Or.inr (by (first | omega | (simp; done) | (simp; omega))) | (exact Or.inl (by first | assumption | (simp; done)))))))), (hF1.trans hf2).trans (by (repeat (first | exact Fr.refl _ _ | assumption | apply Fr.drewN | apply Fr.alloc | (apply Fr.transF; assumption) | (refine Fr.setRow ?_ _ (by first | exact Or.inr (by (first | omega | (simp; done) | (simp; omega))) | (exact Or.inl (by first | assumption | (simp; done))))))))⟩ (by show l.sz < l.sz + 1 + r.sz; omega)

/-- How many keys lie in a range. -/
def cntR (x y : Int) (l : List (Int × Int)) : Nat := cntF (fun e => decide (x ≤ e.1 ∧ e.1 ≤ y)) l
theorem cntR_eq {x y : Int} (h : x ≤ y) : ∀ l : List (Int × Int), cntF (befP true y) l = cntR x y l + cntF (befP false x) l
  | [] => rfl
  | e :: l => by
    unfold cntR
    rw [cntF_cons, cntF_cons, cntF_cons]
    have ih := cntR_eq h l
    unfold cntR at ih
    rw [ih]
    have : (if befP true y e = true then 1 else 0) = (if (decide (x ≤ e.1 ∧ e.1 ≤ y)) = true then 1 else 0) + (if befP false x e = true then 1 else 0) := by
      unfold befP
      by_cases h1 : e.1 < x <;> by_cases h2 : e.1 ≤ y <;> simp [h1, h2] <;> omega
    omega
theorem cntR_none {x y : Int} (h : y < x) (l : List (Int × Int)) : cntR x y l = 0 := cntF_none fun e _ => by simp; omega

theorem c_RCount (w : World) (lo p : Nat) (q : AP) (A : AR) (t : Tr) (x y : Int) (ha : ArP w lo p q A) (hi : InA A t) (he : InE t.ents) (ho : Srt t.ents) (hs : t.sz ≤ 1000000) :
    Calls Try.prog 26 [ptr p, .int .u32 (t.root : Int), .int .i64 x, .int .i64 y].toArray w (Ret (RdR w lo p q A (4 * t.ht) (.int .i64 (cntR x y t.ents : Int)))) := by
  refine calls_go Try.func26 rfl Try.ntmps26 (Nat.le_of_ble_eq_true rfl) ?_
  by_cases hxy : y < x
  · repeat (first | refine sp ?_ | (refine is_load ?_; refine ld ?_) | (refine is_store ?_; refine sr ?_) | (refine is_alloc ?_; refine al ?_) | (refine is_box ?_; refine bx ?_) | (refine isl_load ?_; refine ldl ?_) | (refine isl_store ?_; refine srl ?_) | (refine isl_alloc ?_; refine all' ?_) | (refine isl_box ?_; refine bxl ?_) | refine dr Try.follows ?_)
    exact go_ret1 rfl rfl ⟨_, rfl, RdR.fin (by rw [cntR_none hxy]; rfl) ha ha (Rds.refl _ _) (Fr.refl _ _) (Fr.refl _ _)⟩
  · have hb1 := cntF_le (befP true y) t.ents
    have hb2 := cntF_le (befP false x) t.ents
    rw [t.len] at hb1 hb2
    repeat (first | refine sp ?_ | (refine is_load ?_; refine ld ?_) | (refine is_store ?_; refine sr ?_) | (refine is_alloc ?_; refine al ?_) | (refine is_box ?_; refine bx ?_) | (refine isl_load ?_; refine ldl ?_) | (refine isl_store ?_; refine srl ?_) | (refine isl_alloc ?_; refine all' ?_) | (refine isl_box ?_; refine bxl ?_) | refine dr Try.follows ?_)
    refine go_call rfl rfl (c_before w lo p q A t y true ha hi he ho hs) ?_
    rintro _ w1 ⟨rfl, B, ha1, hB, hf1⟩
    repeat (first | refine sp ?_ | (refine is_load ?_; refine ld ?_) | (refine is_store ?_; refine sr ?_) | (refine is_alloc ?_; refine al ?_) | (refine is_box ?_; refine bx ?_) | (refine isl_load ?_; refine ldl ?_) | (refine isl_store ?_; refine srl ?_) | (refine isl_alloc ?_; refine all' ?_) | (refine isl_box ?_; refine bxl ?_) | refine dr Try.follows ?_)
    refine go_call rfl rfl (c_before w1 lo p q B t x false ha1 (hB.inA hi) he ho hs) ?_
    rintro _ w2 ⟨rfl, B2, ha2, hB2, hf2⟩
    have := cntR_eq (show x ≤ y by omega) t.ents
    repeat (first | refine sp ?_ | (refine is_load ?_; refine ld ?_) | (refine is_store ?_; refine sr ?_) | (refine is_alloc ?_; refine al ?_) | (refine is_box ?_; refine bx ?_) | (refine isl_load ?_; refine ldl ?_) | (refine isl_store ?_; refine srl ?_) | (refine isl_alloc ?_; refine all' ?_) | (refine isl_box ?_; refine bxl ?_) | refine dr Try.follows ?_)
    exact go_ret1 rfl rfl ⟨_, rfl, RdR.fin (by congr 1; omega) ha ha2 ((hB.trans hB2).mono (by omega)) (hf1.trans hf2) (Fr.refl _ _)⟩

/-- The entry at a place. -/
def entAt (l : List (Int × Int)) (x : Int) : Option (Int × Int) := if x < 0 then none else l[x.toNat]?
def entV (o : Option (Int × Int)) : Value := .tuple #[.agg ⟨entC (o.getD (0, 0))⟩, .bool o.isSome]

end Go.Proofs.Ytklgmomhdlhajaa
