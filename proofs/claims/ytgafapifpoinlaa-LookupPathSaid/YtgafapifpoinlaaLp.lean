/-
  The way to a key.
-/
import Derived.Test.YtgafapifpoinlaaLo
set_option linter.unusedVariables false
namespace Go.Proofs.Ytgafapifpoinlaa
open Go.Vc

def Tr.path : Tr → Int → List Nat
  | .nil, _ => []
  | .nd i l k v r, x => i :: (if x < k then l.path x else if k < x then r.path x else [])

theorem Tr.path_len (x : Int) : ∀ t : Tr, (t.path x).length ≤ t.ht
  | .nil => Nat.le_refl _
  | .nd i l k v r => by
    have h1 := Tr.path_len x l
    have h2 := Tr.path_len x r
    simp only [Tr.path, Tr.ht, List.length_cons]
    split
    · omega
    · split
      · omega
      · simp

set_option maxHeartbeats 4000000 in
theorem c_Path (w : World) (lo p : Nat) (q : AP) (A : AR) (t : Tr) (x : Int) (ha : ArP w lo p q A) (hi : InA A t) (he : InE t.ents) (hs : t.sz ≤ 1000000) :
    Calls Try.prog 35 [ptr p, .int .u32 (t.root : Int), .int .i64 x].toArray w (Ret fun v w' => OwnN w' w.heap.size v (t.path x) ∧ ∃ B, ArP w' lo p q B ∧ Rds A B t.ht ∧ Fr (fun b => b = p) w w') := by
  have hpl := ha.lt p ha.fpp
  refine calls_go Try.func35 rfl Try.ntmps35 (Nat.le_of_ble_eq_true rfl) ?_
  repeat (first | refine sp ?_ | (refine is_load ?_; refine ld ?_) | (refine is_store ?_; refine sr ?_) | (refine is_alloc ?_; refine al ?_) | (refine is_box ?_; refine bx ?_) | (refine isl_load ?_; refine ldl ?_) | (refine isl_store ?_; refine srl ?_) | (refine isl_alloc ?_; refine all' ?_) | (refine isl_box ?_; refine bxl ?_) | refine dr Try.follows ?_)
  refine go_loop (G := Tr × Value × List Nat × AR) [7, 8] (fun ⟨t', v, _, _⟩ => [v, .int .u32 (t'.root : Int)]) [(0, ptr p), (2, .int .i64 x)]
    (fun ⟨t', v, a, B⟩ w' => InA B t' ∧ InE t'.ents ∧ a ++ t'.path x = t.path x ∧ a.length + t'.sz ≤ t.sz ∧ t'.ht ≤ t.ht ∧ Rds A B (t.ht - t'.ht) ∧ ArP w' lo p q B ∧ OwnN w' w.heap.size v a ∧ Fr (fun b => b = p) w w')
    (fun g => g.1.sz) (t, .slice none 0 0, [], A) rfl ⟨rfl, rfl, trivial⟩
    ⟨hi, he, rfl, by simp, Nat.le_refl _, Rds.refl _ _, ha, OwnN.nil _ _, Fr.refl _ _⟩ ?_
  rintro ⟨t', v, a, B⟩ w1 ⟨hi1, he1, hsum, hn1, hht, hB, ha1, ho1, hF1⟩
  have hl1 := hF1.size
  cases t' with
  | nil =>
    repeat (first | refine sp ?_ | (refine is_load ?_; refine ld ?_) | (refine is_store ?_; refine sr ?_) | (refine is_alloc ?_; refine al ?_) | (refine is_box ?_; refine bx ?_) | (refine isl_load ?_; refine ldl ?_) | (refine isl_store ?_; refine srl ?_) | (refine isl_alloc ?_; refine all' ?_) | (refine isl_box ?_; refine bxl ?_))
    refine go_ret1 rfl rfl ⟨_, rfl, ?_, B, ha1, hB.mono (by omega), hF1⟩
    rw [← hsum]; simpa [Tr.path] using ho1
  | nd i l k v0 r =>
    have h0 : i ≠ 0 := by have := hi1.1; omega
    refine go_as 8 (u' := .int .u32 (i : Int)) rfl rfl ?_
    obtain ⟨hel, her, hkk, hvv⟩ := he1.nd
    have hsz : (Tr.nd i l k v0 r).sz = l.sz + 1 + r.sz := rfl
    have hhd : (Tr.nd i l k v0 r).ht = 1 + max l.ht r.ht := rfl
    have hpa : (Tr.nd i l k v0 r).path x = i :: (if x < k then l.path x else if k < x then r.path x else []) := rfl
    obtain ⟨hri, hrl, hrr⟩ := hi1.roots ha1.wf
    rw [hpa] at hsum
    repeat (first | refine sp ?_ | (refine is_load ?_; refine ld ?_) | (refine is_store ?_; refine sr ?_) | (refine is_alloc ?_; refine al ?_) | (refine is_box ?_; refine bx ?_) | (refine isl_load ?_; refine ldl ?_) | (refine isl_store ?_; refine srl ?_) | (refine isl_alloc ?_; refine all' ?_) | (refine isl_box ?_; refine bxl ?_) | refine dr Try.follows ?_)
    refine go_call rfl rfl (p_Node _ lo p q B i ha1 hri) ?_
    rintro _ w2 ⟨rfl, ha2, hf2⟩
    rw [show B.used i = true from hi1.2.1, hi1.nodeL he1 (by omega)]
    generalize smy (Tr.nd i l k v0 r).vals = S
    have hl2 := hf2.size
    have hi2 := hi1.read i
    have ho2 : OwnN w2 w.heap.size v a := Own.fr ho1 hf2 (fun b hb e => by omega)
    have hB2 := hB.trans (Rds.read B i)
    repeat (first | refine sp ?_ | (refine is_load ?_; refine ld ?_) | (refine is_store ?_; refine sr ?_) | (refine is_alloc ?_; refine al ?_) | (refine is_box ?_; refine bx ?_) | (refine isl_load ?_; refine ldl ?_) | (refine isl_store ?_; refine srl ?_) | (refine isl_alloc ?_; refine all' ?_) | (refine isl_box ?_; refine bxl ?_) | refine dr Try.follows ?_)
    refine go_name (F := fun w3 => At w3 w2.heap.size [.int .i64 k, .int .i64 v0, .int .u32 (l.root : Int), .int .u32 (r.root : Int), .int .i64 S.n, .int .i64 S.s, .int .i64 S.mn, .int .i64 S.mx] 52 ∧ ArP w3 lo p q (B.read i) ∧ OwnN w3 w.heap.size v a ∧ Fr (fun b => b = p) w w3 ∧ w2.heap.size + 1 ≤ w3.heap.size) ⟨by (repeat (first | assumption | (refine At.new' (by (first | omega | (simp; done) | (simp; omega))) _ _) | apply At.alloc | apply At.drewN | apply At.setRow | (apply At.setRow_neF; first | assumption | (apply Ne.symm; assumption) | omega) | (apply At.extF; assumption))), ha2.ext (by (repeat (first | exact Fr.refl _ _ | assumption | apply Fr.drewN | apply Fr.alloc | (apply Fr.transF; assumption) | (refine Fr.setRow ?_ _ (by first | exact Or.inr (by (first | omega | (simp; done) | (simp; omega))) | (exact Or.inl (by first | assumption | (simp; done)))))))), Own.ext ho2 (by (repeat (first | exact Fr.refl _ _ | assumption | apply Fr.drewN | apply Fr.alloc | (apply Fr.transF; assumption) | (refine Fr.setRow ?_ _ (by first | exact Or.inr (by (first | omega | (simp; done) | (simp; omega))) | (exact Or.inl (by first | assumption | (simp; done)))))))), (hF1.trans hf2).trans (by (repeat (first | exact Fr.refl _ _ | assumption | apply Fr.drewN | apply Fr.alloc | (apply Fr.transF; assumption) | (refine Fr.setRow ?_ _ (by first | exact Or.inr (by (first | omega | (simp; done) | (simp; omega))) | (exact Or.inl (by first | assumption | (simp; done)))))))), by simp⟩ ?_
    rintro w3 ⟨hat3, ha3, ho3, hF3, hl3⟩
    have hneN : v.ownBlock ≠ some w2.heap.size := fun e => by
      have := (Own.block_lt ho2 e).1
      omega
    refine go_pushG (by decide) rfl rfl rfl rfl ho3 rfl (one_u32 _) (by omega) (by simp [maxLen]; omega) (by omega) (by omega) ?_
    intro v4 w4 ho4' hg4 _
    have hS : ∀ b, v.ownBlock = some b → w.heap.size ≤ b := fun b e => (World.ownsRow.lt ho3 _ e).1
    have hF4 : Fr (fun b => b = p) w w4 := hF3.trans' (Fr.of_grown hg4) fun b hb e => by have := hS b e; omega
    have ha4 : ArP w4 lo p q (B.read i) := ha3.fr (Fr.of_grown hg4) fun b hb e => by have := hS b e; have := ha.lt b hb; omega
    have hat4 := hat3.fr (Fr.of_grown hg4) hneN
    have ho4 : OwnN w4 w.heap.size v4 (a ++ [i]) := by unfold OwnN; rw [List.map_append, List.length_append]; exact ho4'
    by_cases h1 : x < k
    · rw [if_pos h1] at hsum
      repeat (first | refine sp ?_ | (refine is_load ?_; refine ld ?_) | (refine is_store ?_; refine sr ?_) | (refine is_alloc ?_; refine al ?_) | (refine is_box ?_; refine bx ?_) | (refine isl_load ?_; refine ldl ?_) | (refine isl_store ?_; refine srl ?_) | (refine isl_alloc ?_; refine all' ?_) | (refine isl_box ?_; refine bxl ?_) | refine dr Try.follows ?_)
      exact go_stop (G := Tr × Value × List Nat × AR) (l, v4, a ++ [i], B.read i) rfl ⟨rfl, rfl, trivial⟩ ⟨hi2.2.2.2.1, hel, by rw [← hsum]; simp, by simp; omega, by omega, hB2.mono (by omega), ha4, ho4, hF4⟩ (by show l.sz < l.sz + 1 + r.sz; omega)
    rw [if_neg h1] at hsum
    by_cases h2 : k < x
    · rw [if_pos h2] at hsum
      repeat (first | refine sp ?_ | (refine is_load ?_; refine ld ?_) | (refine is_store ?_; refine sr ?_) | (refine is_alloc ?_; refine al ?_) | (refine is_box ?_; refine bx ?_) | (refine isl_load ?_; refine ldl ?_) | (refine isl_store ?_; refine srl ?_) | (refine isl_alloc ?_; refine all' ?_) | (refine isl_box ?_; refine bxl ?_) | refine dr Try.follows ?_)
      exact go_stop (G := Tr × Value × List Nat × AR) (r, v4, a ++ [i], B.read i) rfl ⟨rfl, rfl, trivial⟩ ⟨hi2.2.2.2.2, her, by rw [← hsum]; simp, by simp; omega, by omega, hB2.mono (by omega), ha4, ho4, hF4⟩ (by show r.sz < l.sz + 1 + r.sz; omega)
    · rw [if_neg h2] at hsum
      repeat (first | refine sp ?_ | (refine is_load ?_; refine ld ?_) | (refine is_store ?_; refine sr ?_) | (refine is_alloc ?_; refine al ?_) | (refine is_box ?_; refine bx ?_) | (refine isl_load ?_; refine ldl ?_) | (refine isl_store ?_; refine srl ?_) | (refine isl_alloc ?_; refine all' ?_) | (refine isl_box ?_; refine bxl ?_) | refine dr Try.follows ?_)
      exact go_ret1 rfl rfl ⟨_, rfl, by rw [← hsum]; exact ho4, _, ha4, hB2.mono (by omega), hF4⟩

end Go.Proofs.Ytgafapifpoinlaa
