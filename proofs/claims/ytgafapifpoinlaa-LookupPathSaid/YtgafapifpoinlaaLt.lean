/-
  The law on the way to a key.
-/
import Derived.Test.YtgafapifpoinlaaLr
import Derived.Test.YtgafapifpoinlaaLp
set_option linter.unusedVariables false
namespace Go.Proofs.Ytgafapifpoinlaa
open Go.Vc

theorem tdiv2_bd (x : Int) (h : -9223372036854775808 ≤ x ∧ x ≤ 9223372036854775807) : -9223372036854775808 ≤ x.tdiv 2 ∧ x.tdiv 2 ≤ 9223372036854775807 := by
  rcases Int.le_total 0 x with h0 | h0
  · rw [Int.tdiv_eq_ediv_of_nonneg h0]; omega
  · rw [show x = -(-x) by omega, Int.neg_tdiv, Int.tdiv_eq_ediv_of_nonneg (by omega)]; omega

set_option maxHeartbeats 4000000 in
theorem c_LawPath (lv : Value) (l : List (Int × Int)) (tilt x at_ : Int) (w : World) (h : Rd w 0 lv entC l) (he : InE l) (hlen : l.length ≤ 9223372036854775807) (ht : 0 ≤ tilt ∧ tilt ≤ 18446744073709551615) (hx : InV x) (hat : InV at_) :
    Calls Try.prog 7 [lv, .int .u64 tilt, .int .i64 x, .int .i64 at_].toArray w (Ret fun v w' => v = .bool true ∧ Ext w w') := by
  unfold InV at hx hat
  refine calls_go Try.func7 rfl Try.ntmps7 (Nat.le_of_ble_eq_true rfl) ?_
  repeat (first | refine sp ?_ | (refine is_load ?_; refine ld ?_) | (refine is_store ?_; refine sr ?_) | (refine is_alloc ?_; refine al ?_) | (refine is_box ?_; refine bx ?_) | (refine isl_load ?_; refine ldl ?_) | (refine isl_store ?_; refine srl ?_) | (refine isl_alloc ?_; refine all' ?_) | (refine isl_box ?_; refine bxl ?_) | refine dr Try.follows ?_)
  refine go_call rfl rfl (c_List w lv l 120 h.up he hlen (by omega)) ?_
  rintro v1 w1 ⟨a, ha, hok, hx1⟩
  obtain ⟨sa, cap, rfl, hlc, _, _⟩ := ha
  have ha : RdU w1 w1.heap.size (.slice sa a.length cap) entC a := ⟨sa, cap, rfl, hlc, by assumption, by assumption⟩
  repeat (first | refine sp ?_ | (refine is_load ?_; refine ld ?_) | (refine is_store ?_; refine sr ?_) | (refine is_alloc ?_; refine al ?_) | (refine is_box ?_; refine bx ?_) | (refine isl_load ?_; refine ldl ?_) | (refine isl_store ?_; refine srl ?_) | (refine isl_alloc ?_; refine all' ?_) | (refine isl_box ?_; refine bxl ?_) | refine dr Try.follows ?_)
  refine go_call rfl rfl (c_GrowT w w1 a 120 _ tilt 1 ha hok (by omega) (by omega) (by omega) ht hx1) ?_
  rintro _ w2 ⟨lo, p, q, B, t, rfl, g, hen, hsz, hre, hcp, hpb, hx2⟩
  repeat (first | refine sp ?_ | (refine is_load ?_; refine ld ?_) | (refine is_store ?_; refine sr ?_) | (refine is_alloc ?_; refine al ?_) | (refine is_box ?_; refine bx ?_) | (refine isl_load ?_; refine ldl ?_) | (refine isl_store ?_; refine srl ?_) | (refine isl_alloc ?_; refine all' ?_) | (refine isl_box ?_; refine bxl ?_) | refine dr Try.follows ?_)
  refine go_call rfl rfl (c_awake9 w2) ?_
  rintro _ w3 ⟨rfl, hx3⟩
  have g3 := g.step hx3
  have hal := hok.len
  have ha3 := (ha.ext hx2).ext hx3
  obtain ⟨m, hmh, hm80, hht⟩ := g3.hgt9 hsz
  have hpl := g3.ar.lt p g3.ar.fpp
  iterate 11 (refine sp ?_)
  refine go_cut (G := Int) [2] (fun y => [.int .i64 y]) [(9, .slice sa a.length cap), (10, ptr p), (11, .int .u32 (t.root : Int))] (fun _ w' => w' = w3) ?_ ?_
  · by_cases h0 : 0 < a.length
    · by_cases hpar : at_.tmod 2 = 0
      · have hb := tdiv2_bd at_ hat
        have m1 := Int.emod_nonneg (at_.tdiv 2) (show (a.length : Int) ≠ 0 by omega)
        have m2 := Int.emod_lt_of_pos (at_.tdiv 2) (show (0 : Int) < a.length by omega)
        obtain ⟨u, hu⟩ : ∃ u : Nat, (at_.tdiv 2) % (a.length : Int) = u := ⟨((at_.tdiv 2) % (a.length : Int)).toNat, by omega⟩
        have hul : u < a.length := by omega
        obtain ⟨b, o, es, hbl, hcell⟩ := ha3.at (m := 2) (fun _ => rfl) (by omega) hul
        subst es
        have e0 := hcell 0 (.int .i64 a[u].1) rfl
        generalize a[u].1 = z at e0
        repeat (first | refine sp ?_ | (refine is_load ?_; refine ld ?_) | (refine is_store ?_; refine sr ?_) | (refine is_alloc ?_; refine al ?_) | (refine is_box ?_; refine bx ?_) | (refine isl_load ?_; refine ldl ?_) | (refine isl_store ?_; refine srl ?_) | (refine isl_alloc ?_; refine all' ?_) | (refine isl_box ?_; refine bxl ?_))
        refine go_as 44 (u' := .int .i64 (at_.tdiv 2)) rfl (congrArg _ (wrap_in (by change _ ∧ _; omega))) ?_
        refine go_call rfl rfl (c_Mod (at_.tdiv 2) a.length w3 hb (by omega)) ?_
        rintro _ w4 ⟨rfl, rfl⟩
        rw [hu]
        repeat (first | refine sp ?_ | (refine is_load ?_; refine ld ?_) | (refine is_store ?_; refine sr ?_) | (refine is_alloc ?_; refine al ?_) | (refine is_box ?_; refine bx ?_) | (refine isl_load ?_; refine ldl ?_) | (refine isl_store ?_; refine srl ?_) | (refine isl_alloc ?_; refine all' ?_) | (refine isl_box ?_; refine bxl ?_))
        exact go_stop (G := Int) z rfl ⟨rfl, rfl, rfl, trivial⟩ rfl trivial
      · repeat (first | refine sp ?_ | (refine is_load ?_; refine ld ?_) | (refine is_store ?_; refine sr ?_) | (refine is_alloc ?_; refine al ?_) | (refine is_box ?_; refine bx ?_) | (refine isl_load ?_; refine ldl ?_) | (refine isl_store ?_; refine srl ?_) | (refine isl_alloc ?_; refine all' ?_) | (refine isl_box ?_; refine bxl ?_))
        exact go_stop (G := Int) x rfl ⟨rfl, rfl, rfl, trivial⟩ rfl trivial
    · repeat (first | refine sp ?_ | (refine is_load ?_; refine ld ?_) | (refine is_store ?_; refine sr ?_) | (refine is_alloc ?_; refine al ?_) | (refine is_box ?_; refine bx ?_) | (refine isl_load ?_; refine ldl ?_) | (refine isl_store ?_; refine srl ?_) | (refine isl_alloc ?_; refine all' ?_) | (refine isl_box ?_; refine bxl ?_))
      exact go_stop (G := Int) x rfl ⟨rfl, rfl, rfl, trivial⟩ rfl trivial
  rintro y w3 rfl
  repeat (first | refine sp ?_ | (refine is_load ?_; refine ld ?_) | (refine is_store ?_; refine sr ?_) | (refine is_alloc ?_; refine al ?_) | (refine is_box ?_; refine bx ?_) | (refine isl_load ?_; refine ldl ?_) | (refine isl_store ?_; refine srl ?_) | (refine isl_alloc ?_; refine all' ?_) | (refine isl_box ?_; refine bxl ?_))
  refine go_call rfl rfl (p_Reads w3 lo p q B g3.ar) ?_
  rintro _ w3 ⟨rfl, rfl⟩
  repeat (first | refine sp ?_ | (refine is_load ?_; refine ld ?_) | (refine is_store ?_; refine sr ?_) | (refine is_alloc ?_; refine al ?_) | (refine is_box ?_; refine bx ?_) | (refine isl_load ?_; refine ldl ?_) | (refine isl_store ?_; refine srl ?_) | (refine isl_alloc ?_; refine all' ?_) | (refine isl_box ?_; refine bxl ?_))
  refine go_call rfl rfl (c_Path w3 lo p q B t y g3.ar g3.inA g3.ine g3.sz6) ?_
  rintro pv w4 ⟨hop, hR4⟩
  obtain ⟨B4, g4, hB4, hf4⟩ := g3.rd hR4
  have hrd := hB4.le9 (k := 10000) (by omega) (by omega)
  have hl4 := hf4.size
  obtain ⟨sp_, cp, rfl, hcp2, _⟩ := hop.slice
  repeat (first | refine sp ?_ | (refine is_load ?_; refine ld ?_) | (refine is_store ?_; refine sr ?_) | (refine is_alloc ?_; refine al ?_) | (refine is_box ?_; refine bx ?_) | (refine isl_load ?_; refine ldl ?_) | (refine isl_store ?_; refine srl ?_) | (refine isl_alloc ?_; refine all' ?_) | (refine isl_box ?_; refine bxl ?_))
  refine go_call rfl rfl (c_most9 a.length w4 hmh hm80) ?_
  rintro _ w5 ⟨rfl, hx5⟩
  have g5 := g4.step hx5
  have hl5 := hx5.size
  replace hop := hop.ext hx5
  repeat (first | refine sp ?_ | (refine is_load ?_; refine ld ?_) | (refine is_store ?_; refine sr ?_) | (refine is_alloc ?_; refine al ?_) | (refine is_box ?_; refine bx ?_) | (refine isl_load ?_; refine ldl ?_) | (refine isl_store ?_; refine srl ?_) | (refine isl_alloc ?_; refine all' ?_) | (refine isl_box ?_; refine bxl ?_))
  refine go_call rfl rfl (c_Within w5 lo p q B4 B.reads _ g5.ar hrd.1 (by omega) (by omega) (by omega)) ?_
  rintro _ w5 ⟨rfl, rfl⟩
  have hpth := Tr.path_len y t
  repeat (first | refine sp ?_ | (refine is_load ?_; refine ld ?_) | (refine is_store ?_; refine sr ?_) | (refine is_alloc ?_; refine al ?_) | (refine is_box ?_; refine bx ?_) | (refine isl_load ?_; refine ldl ?_) | (refine isl_store ?_; refine srl ?_) | (refine isl_alloc ?_; refine all' ?_) | (refine isl_box ?_; refine bxl ?_))
  refine go_loop (G := Nat × Tr × AR) [15, 16] (fun ⟨k, t', _⟩ => [.int .u32 (t'.root : Int), .int .i64 (k : Int)]) [(2, .int .i64 y), (9, .slice sa a.length cap), (10, ptr p), (14, .slice sp_ (t.path y).length cp)]
    (fun ⟨k, t', B'⟩ w' => k ≤ (t.path y).length ∧ (t.path y).drop k = t'.path y ∧ InA B' t' ∧ InE t'.ents ∧ t'.sz ≤ t.sz ∧ TreeAt w w' lo p q B' t ∧ OwnN w' w3.heap.size (.slice sp_ (t.path y).length cp) (t.path y)) (fun g => g.2.1.sz) (0, t, B4) rfl ⟨rfl, rfl, rfl, rfl, trivial⟩ ⟨by omega, rfl, g5.inA, g5.ine, Nat.le_refl _, g5, hop⟩ ?_
  clear hop g5
  rintro ⟨k, t', B'⟩ w6 ⟨hk, hdr, hi', he', hsz', g6, hop⟩
  cases t' with
  | nil =>
    have hke : k = (t.path y).length := by
      have := congrArg List.length hdr
      simp [Tr.path] at this; omega
    subst hke
    repeat (first | refine sp ?_ | (refine is_load ?_; refine ld ?_) | (refine is_store ?_; refine sr ?_) | (refine is_alloc ?_; refine al ?_) | (refine is_box ?_; refine bx ?_) | (refine isl_load ?_; refine ldl ?_) | (refine isl_store ?_; refine srl ?_) | (refine isl_alloc ?_; refine all' ?_) | (refine isl_box ?_; refine bxl ?_))
    refine go_call rfl rfl (c_Height (a.length : Int) w6) ?_
    rintro _ w7 ⟨rfl, hx7⟩
    rw [hmh]
    repeat (first | refine sp ?_ | (refine is_load ?_; refine ld ?_) | (refine is_store ?_; refine sr ?_) | (refine is_alloc ?_; refine al ?_) | (refine is_box ?_; refine bx ?_) | (refine isl_load ?_; refine ldl ?_) | (refine isl_store ?_; refine srl ?_) | (refine isl_alloc ?_; refine all' ?_) | (refine isl_box ?_; refine bxl ?_))
    exact go_ret1 rfl rfl ⟨_, rfl, rfl, g6.ext.trans hx7⟩
  | nd i l' k' v' r' =>
    have hpa : (Tr.nd i l' k' v' r').path y = i :: (if y < k' then l'.path y else if k' < y then r'.path y else []) := rfl
    have hlt : k < (t.path y).length := by
      have := congrArg List.length hdr
      rw [hpa] at this
      simp at this; omega
    have hget : (t.path y)[k] = i ∧ (t.path y).drop (k + 1) = (if y < k' then l'.path y else if k' < y then r'.path y else []) := by
      rw [List.drop_eq_getElem_cons hlt, hpa] at hdr
      exact List.cons.inj hdr
    have h0 : i ≠ 0 := by have := hi'.1; omega
    have ht6 := g6.sz6
    obtain ⟨hel, her, hkk, hvv⟩ := he'.nd
    obtain ⟨hri, hrl, hrr⟩ := hi'.roots g6.ar.wf
    have hs' : (Tr.nd i l' k' v' r').sz = l'.sz + 1 + r'.sz := rfl
    have hpl6 := g6.ar.lt p g6.ar.fpp
    refine go_as 15 (u' := .int .u32 (i : Int)) rfl rfl ?_
    repeat (first | refine sp ?_ | (refine is_load ?_; refine ld ?_) | (refine is_store ?_; refine sr ?_) | (refine is_alloc ?_; refine al ?_) | (refine is_box ?_; refine bx ?_) | (refine isl_load ?_; refine ldl ?_) | (refine isl_store ?_; refine srl ?_) | (refine isl_alloc ?_; refine all' ?_) | (refine isl_box ?_; refine bxl ?_))
    refine go_call rfl rfl (p_Node _ lo p q B' i g6.ar hri) ?_
    rintro _ w7 ⟨rfl, ha7, hf7⟩
    obtain ⟨_, g7, _, _⟩ : ∃ B'', TreeAt w w7 lo p q (B'.read i) t ∧ Rds B' B'' 1 ∧ Fr (fun b => b = p) w6 w7 := ⟨B'.read i, ⟨ha7, g6.inA.read i, g6.srt, g6.ine, g6.bal, g6.sz, g6.pb, g6.ext.trans' hf7 fun b hb e => by have := g6.pb; omega⟩, Rds.read _ _, hf7⟩
    have hop7 : OwnN w7 w3.heap.size (.slice sp_ (t.path y).length cp) (t.path y) := Own.fr hop hf7 (fun b hb e => by omega)
    rw [show B'.used i = true from hi'.2.1, hi'.nodeL he' (by omega)]
    generalize smy (Tr.nd i l' k' v' r').vals = S
    have hi7 := hi'.read i
    obtain ⟨sp2, cp2, e, _, hrc⟩ := hop7.slice
    simp only [Value.slice.injEq] at e
    obtain ⟨rfl, _, rfl⟩ := e
    obtain ⟨b, o, rfl, hcell⟩ := hrc k (.int .u32 (((t.path y)[k] : Nat) : Int)) (by simp [hlt])
    rw [hget.1] at hcell
    repeat (first | refine sp ?_ | (refine is_load ?_; refine ld ?_) | (refine is_store ?_; refine sr ?_) | (refine is_alloc ?_; refine al ?_) | (refine is_box ?_; refine bx ?_) | (refine isl_load ?_; refine ldl ?_) | (refine isl_store ?_; refine srl ?_) | (refine isl_alloc ?_; refine all' ?_) | (refine isl_box ?_; refine bxl ?_))
    refine go_name (F := fun w8 => At w8 w7.heap.size [.int .i64 k', .int .i64 v', .int .u32 (l'.root : Int), .int .u32 (r'.root : Int), .int .i64 S.n, .int .i64 S.s, .int .i64 S.mn, .int .i64 S.mx] 52 ∧ w8.cell? ⟨b, o + k, none⟩ = some (.int .u32 (i : Int)) ∧ Ext w7 w8) ⟨by (repeat (first | assumption | (refine At.new' (by (first | omega | (simp; done) | (simp; omega))) _ _) | apply At.alloc | apply At.drewN | apply At.setRow | (apply At.setRow_neF; first | assumption | (apply Ne.symm; assumption) | omega) | (apply At.extF; assumption))), Fr.cell (S := fun _ => False) (by (repeat (first | exact Fr.refl _ _ | assumption | apply Fr.drewN | apply Fr.alloc | (apply Fr.transF; assumption) | (refine Fr.setRow ?_ _ (by first | exact Or.inr (by (first | omega | (simp; done) | (simp; omega))) | (exact Or.inl (by first | assumption | (simp; done)))))))) hcell id, by (repeat (first | exact Fr.refl _ _ | assumption | apply Fr.drewN | apply Fr.alloc | (apply Fr.transF; assumption) | (refine Fr.setRow ?_ _ (by first | exact Or.inr (by (first | omega | (simp; done) | (simp; omega))) | (exact Or.inl (by first | assumption | (simp; done)))))))⟩ ?_
    rintro w8 ⟨hn8, hc8, hx8⟩
    by_cases h1 : k' = y
    · subst h1
      have hnil : (t.path k').drop (k + 1) = [] := by rw [hget.2, if_neg (by omega), if_neg (by omega)]
      have hlast : (t.path k').length = k + 1 := by
        have := congrArg List.length hnil
        simp at this; omega
      repeat (first | refine sp ?_ | (refine is_load ?_; refine ld ?_) | (refine is_store ?_; refine sr ?_) | (refine is_alloc ?_; refine al ?_) | (refine is_box ?_; refine bx ?_) | (refine isl_load ?_; refine ldl ?_) | (refine isl_store ?_; refine srl ?_) | (refine isl_alloc ?_; refine all' ?_) | (refine isl_box ?_; refine bxl ?_))
      exact go_ret1 rfl rfl ⟨_, rfl, by simp [hlast], g7.ext.trans (by (repeat (first | exact Fr.refl _ _ | assumption | apply Fr.drewN | apply Fr.alloc | (apply Fr.transF; assumption) | (refine Fr.setRow ?_ _ (by first | exact Or.inr (by (first | omega | (simp; done) | (simp; omega))) | (exact Or.inl (by first | assumption | (simp; done))))))))⟩
    · by_cases h2 : y < k'
      · repeat (first | refine sp ?_ | (refine is_load ?_; refine ld ?_) | (refine is_store ?_; refine sr ?_) | (refine is_alloc ?_; refine al ?_) | (refine is_box ?_; refine bx ?_) | (refine isl_load ?_; refine ldl ?_) | (refine isl_store ?_; refine srl ?_) | (refine isl_alloc ?_; refine all' ?_) | (refine isl_box ?_; refine bxl ?_))
        exact go_stop (G := Nat × Tr × AR) (k + 1, l', B'.read i) rfl ⟨rfl, rfl, rfl, rfl, trivial⟩ ⟨hlt, by rw [hget.2, if_pos h2], hi7.2.2.2.1, hel, by omega, g7.step (by (repeat (first | exact Fr.refl _ _ | assumption | apply Fr.drewN | apply Fr.alloc | (apply Fr.transF; assumption) | (refine Fr.setRow ?_ _ (by first | exact Or.inr (by (first | omega | (simp; done) | (simp; omega))) | (exact Or.inl (by first | assumption | (simp; done)))))))), Own.ext hop7 (by (repeat (first | exact Fr.refl _ _ | assumption | apply Fr.drewN | apply Fr.alloc | (apply Fr.transF; assumption) | (refine Fr.setRow ?_ _ (by first | exact Or.inr (by (first | omega | (simp; done) | (simp; omega))) | (exact Or.inl (by first | assumption | (simp; done))))))))⟩ (by show l'.sz < l'.sz + 1 + r'.sz; omega)
      · repeat (first | refine sp ?_ | (refine is_load ?_; refine ld ?_) | (refine is_store ?_; refine sr ?_) | (refine is_alloc ?_; refine al ?_) | (refine is_box ?_; refine bx ?_) | (refine isl_load ?_; refine ldl ?_) | (refine isl_store ?_; refine srl ?_) | (refine isl_alloc ?_; refine all' ?_) | (refine isl_box ?_; refine bxl ?_))
        exact go_stop (G := Nat × Tr × AR) (k + 1, r', B'.read i) rfl ⟨rfl, rfl, rfl, rfl, trivial⟩ ⟨hlt, by rw [hget.2, if_neg h2, if_pos (by omega)], hi7.2.2.2.2, her, by omega, g7.step (by (repeat (first | exact Fr.refl _ _ | assumption | apply Fr.drewN | apply Fr.alloc | (apply Fr.transF; assumption) | (refine Fr.setRow ?_ _ (by first | exact Or.inr (by (first | omega | (simp; done) | (simp; omega))) | (exact Or.inl (by first | assumption | (simp; done)))))))), Own.ext hop7 (by (repeat (first | exact Fr.refl _ _ | assumption | apply Fr.drewN | apply Fr.alloc | (apply Fr.transF; assumption) | (refine Fr.setRow ?_ _ (by first | exact Or.inr (by (first | omega | (simp; done) | (simp; omega))) | (exact Or.inl (by first | assumption | (simp; done))))))))⟩ (by show r'.sz < l'.sz + 1 + r'.sz; omega)

end Go.Proofs.Ytgafapifpoinlaa
