/-
  Lemmas and contracts of functions, no condition: the texts Qn.
-/
import Derived.Test.YteghhalnpdikoaaZ4
set_option linter.unusedVariables false

namespace Go.Proofs.Yteghhalnpdikoaa
open Go.Vc

theorem srt_gt {W : List (Int × Int)} (hs : Srt W) {j : Nat} (hj : j < W.length) : W.filter (fun e => decide (W[j].1 < e.1)) = W.drop (j + 1) ∧ W.filter (fun e => decide (e.1 < W[j].1)) = W.take j := by
  have e : W = W.take j ++ W[j] :: W.drop (j + 1) := by rw [← List.drop_eq_getElem_cons hj, List.take_append_drop]
  have hs' := hs
  rw [e] at hs'
  obtain ⟨h1, h2, h3⟩ := List.pairwise_append.1 hs'
  obtain ⟨h4, h5⟩ := List.pairwise_cons.1 h2
  generalize W[j] = z at *
  constructor
  · conv => lhs; rw [e]
    rw [List.filter_append, List.filter_cons, if_neg (by simp), List.filter_eq_nil_iff.2 (fun u hu => by have := h3 u hu z (by simp); simp; omega), List.filter_eq_self.2 (fun u hu => by have := h4 u hu; simp; omega), List.nil_append]
  · conv => lhs; rw [e]
    rw [List.filter_append, List.filter_cons, if_neg (by simp), List.filter_eq_self.2 (fun u hu => by have := h3 u hu z (by simp); simp; omega), List.filter_eq_nil_iff.2 (fun u hu => by have := h4 u hu; simp; omega), List.append_nil]
theorem rng_gt' {x y k : Int} (hk : x ≤ k) (l : List (Int × Int)) : (rng x y l).filter (fun e => decide (k < e.1)) = rng (k + 1) y l := by
  unfold rng
  rw [List.filter_filter]
  refine List.filter_congr fun z hz => ?_
  simp only [inR]
  by_cases hc : k < z.1
  · simp [hc, show x ≤ z.1 by omega, show k + 1 ≤ z.1 by omega]
  · simp [hc, show ¬ k + 1 ≤ z.1 by omega]

/-- The token behind the first 'n' entries. -/
def tokN (h : Nat) (q : Rq) (W : List (Int × Int)) (n : Nat) : List (BitVec 8) := if n = 0 then [] else tokB h ⟨q.lo, q.hi, 1, q.rev⟩ (W.getD (n - 1) (0, 0)).1

theorem pg_step {l : List (Int × Int)} (hs : Srt l) (he : InE l) {h : Nat} (hh : h < 18446744073709551616) {q : Rq} (hq : q.ok) (h1 : 1 ≤ q.lim) (h2 : q.lim ≤ 1000) (h3 : q.lo ≤ q.hi) {n : Nat} (hn : n = 0 ∨ n < (rng q.lo q.hi l).length) :
    pgP l h q (tokN h q (pgOrd q (rng q.lo q.hi l)) n) = pgFin h q ((pgOrd q (rng q.lo q.hi l)).drop n) := by
  unfold tokN
  rcases Nat.eq_zero_or_pos n with h0 | h0
  · subst h0
    unfold pgP
    rw [if_pos rfl, if_neg (by omega), if_pos (show ([] : List (BitVec 8)).length = 0 from rfl)]
    rfl
  have hn := hn.resolve_left (by omega)
  rw [if_neg (by omega)]
  have hsw : Srt (rng q.lo q.hi l) := List.Pairwise.filter _ hs
  have hmem : ∀ e ∈ rng q.lo q.hi l, q.lo ≤ e.1 ∧ e.1 ≤ q.hi := fun e hm => by have := (List.mem_filter.1 hm).2; simpa [inR] using this
  have hiw : InE (rng q.lo q.hi l) := InE.rng he
  have key : ∀ (W : List (Int × Int)) (z : Int × Int), W.length = (rng q.lo q.hi l).length → W.getD (n - 1) (0, 0) = z → z ∈ rng q.lo q.hi l → pgOrd q (pgSel l q (some z.1)) = W.drop n →
      pgP l h q (tokB h ⟨q.lo, q.hi, 1, q.rev⟩ (W.getD (n - 1) (0, 0)).1) = pgFin h q (W.drop n) := by
    intro W z hW hz hm hsel
    have hb := hmem z hm
    have hk : InK z.1 := (hiw z hm).1
    have htl := tokB_len h ⟨q.lo, q.hi, 1, q.rev⟩ z.1
    unfold pgP
    rw [hz, if_neg (by omega), if_neg (by omega), parP_tok h ⟨q.lo, q.hi, 1, q.rev⟩ z.1 hh ⟨hq.1, hq.2.1, (by decide : InK 1)⟩ hk, if_neg (by simp), if_neg, hsel]
    unfold pgBad
    simp
    omega
  have hlen : (rng q.lo q.hi l).length = (rng q.lo q.hi l).length := rfl
  by_cases hr : q.rev = true
  · have e1 : pgOrd q (rng q.lo q.hi l) = (rng q.lo q.hi l).reverse := by unfold pgOrd; rw [if_pos hr]
    rw [e1]
    have hj : (rng q.lo q.hi l).length - n < (rng q.lo q.hi l).length := by omega
    refine key _ ((rng q.lo q.hi l)[(rng q.lo q.hi l).length - n]) (by simp) ?_ (List.getElem_mem _) ?_
    · rw [List.getD_eq_getElem?_getD, List.getElem?_eq_getElem (by simp; omega), Option.getD_some, List.getElem_reverse]
      congr 1
      omega
    · have hb := hmem _ (List.getElem_mem hj)
      unfold pgOrd pgSel
      rw [if_pos hr]
      simp only [hr, if_true]
      rw [← rng_lt (y := q.hi) (by omega), (srt_gt hsw hj).2, List.drop_reverse]
  · have e1 : pgOrd q (rng q.lo q.hi l) = rng q.lo q.hi l := by unfold pgOrd; rw [if_neg hr]
    rw [e1]
    have hj : n - 1 < (rng q.lo q.hi l).length := by omega
    refine key _ ((rng q.lo q.hi l)[n - 1]) rfl ?_ (List.getElem_mem _) ?_
    · rw [List.getD_eq_getElem?_getD, List.getElem?_eq_getElem hj, Option.getD_some]
    · have hb := hmem _ (List.getElem_mem hj)
      unfold pgOrd pgSel
      rw [if_neg hr]
      simp only [hr]
      rw [if_neg (by simp), ← rng_gt' (x := q.lo) (by omega), (srt_gt hsw hj).1]
      congr 1; omega


set_option maxHeartbeats 8000000 in
theorem c_LawVisits (rv : Value) (r : List (Int × Int)) (tilt : Int) (h : Nat) (x y : Int) (rev : Bool) (tv : Value) (lims : List (BitVec 8)) (w : World) (hr : Rd w 0 rv entC r) (hri : InE r) (hrl : r.length ≤ 9223372036854775807) (ht : 0 ≤ tilt ∧ tilt ≤ 18446744073709551615)
    (hh : h < 18446744073709551616) (hx : InK x) (hy : InK y) (htv : By w tv lims) (htl : lims.length ≤ 9223372036854775807) :
    Calls Try.prog 10 [rv, .int .u64 tilt, .int .u64 (h : Int), .int .i64 x, .int .i64 y, .bool rev, tv].toArray w (Ret fun r w' => r = .bool true ∧ Ext w w') := by
  obtain ⟨sa0, ka0, rfl, _, _, _⟩ := id hr
  obtain ⟨st, kt, rfl, _, _⟩ := id htv
  refine calls_go Try.func10 rfl Try.ntmps10 (Nat.le_of_ble_eq_true rfl) ?_
  repeat (first | refine sp ?_ | (refine is_load ?_; refine ld ?_) | (refine is_store ?_; refine sr ?_) | (refine is_alloc ?_; refine al ?_) | (refine is_box ?_; refine bx ?_) | (refine isl_load ?_; refine ldl ?_) | (refine isl_store ?_; refine srl ?_) | (refine isl_alloc ?_; refine all' ?_) | (refine isl_box ?_; refine bxl ?_))
  refine go_call rfl rfl (c_ListR w _ r 100 hr.up hri hrl (by omega)) ?_
  rintro v2 w2 ⟨l, hra, hok, hx2⟩
  obtain ⟨sa, ka, rfl, hka, _, _⟩ := id hra
  have hal := hok.len
  have hs2 := hx2.size
  repeat (first | refine sp ?_ | (refine is_load ?_; refine ld ?_) | (refine is_store ?_; refine sr ?_) | (refine is_alloc ?_; refine al ?_) | (refine is_box ?_; refine bx ?_) | (refine isl_load ?_; refine ldl ?_) | (refine isl_store ?_; refine srl ?_) | (refine isl_alloc ?_; refine all' ?_) | (refine isl_box ?_; refine bxl ?_))
  refine go_call rfl rfl (c_GrowT w2 w2 l 100 _ tilt 1 hra.up hok (by omega) (by omega) (by omega) ht (Fr.refl _ _)) ?_
  rintro _ w3 ⟨lo, p, qp, B, t, rfl, g3, hen, hsz, hre, _, _, hx3, _⟩
  repeat (first | refine sp ?_ | (refine is_load ?_; refine ld ?_) | (refine is_store ?_; refine sr ?_) | (refine is_alloc ?_; refine al ?_) | (refine is_box ?_; refine bx ?_) | (refine isl_load ?_; refine ldl ?_) | (refine isl_store ?_; refine srl ?_) | (refine isl_alloc ?_; refine all' ?_) | (refine isl_box ?_; refine bxl ?_))
  refine go_call rfl rfl (c_awake25 w3) ?_
  rintro _ w4 ⟨rfl, hx4⟩
  have g4 := g3.step hx4
  have hx24 : Ext w2 w4 := hx3.trans hx4
  have hx04 : Ext w w4 := hx2.trans hx24
  have hlof := g4.lof
  have hpf := g4.ar.fpp
  have hplo := hlof.1 p hpf
  have hpl := g4.ar.lt p hpf
  have hs24 := hx24.size
  repeat (first | refine sp ?_ | (refine is_load ?_; refine ld ?_) | (refine is_store ?_; refine sr ?_) | (refine is_alloc ?_; refine al ?_) | (refine is_box ?_; refine bx ?_) | (refine isl_load ?_; refine ldl ?_) | (refine isl_store ?_; refine srl ?_) | (refine isl_alloc ?_; refine all' ?_) | (refine isl_box ?_; refine bxl ?_))
  refine go_cut (G := Int × Int) [3, 4] (fun ⟨x', y'⟩ => [.int .i64 x', .int .i64 y']) [(2, .int .u64 (h : Int)), (5, .bool rev), (6, .slice st lims.length kt), (15, .slice sa l.length ka), (16, ptr p), (17, .int .u32 (t.root : Int))]
    (fun ⟨x', y'⟩ w' => InK x' ∧ InK y' ∧ x' ≤ y' ∧ w' = w4) ?_ ?_
  · by_cases hxy : y < x
    · repeat (first | refine sp ?_ | (refine is_load ?_; refine ld ?_) | (refine is_store ?_; refine sr ?_) | (refine is_alloc ?_; refine al ?_) | (refine is_box ?_; refine bx ?_) | (refine isl_load ?_; refine ldl ?_) | (refine isl_store ?_; refine srl ?_) | (refine isl_alloc ?_; refine all' ?_) | (refine isl_box ?_; refine bxl ?_))
      exact go_stop (G := Int × Int) (y, x) rfl ⟨rfl, rfl, rfl, rfl, rfl, rfl, trivial⟩ ⟨hy, hx, by omega, rfl⟩ trivial
    · repeat (first | refine sp ?_ | (refine is_load ?_; refine ld ?_) | (refine is_store ?_; refine sr ?_) | (refine is_alloc ?_; refine al ?_) | (refine is_box ?_; refine bx ?_) | (refine isl_load ?_; refine ldl ?_) | (refine isl_store ?_; refine srl ?_) | (refine isl_alloc ?_; refine all' ?_) | (refine isl_box ?_; refine bxl ?_))
      exact go_stop (G := Int × Int) (x, y) rfl ⟨rfl, rfl, rfl, rfl, rfl, rfl, trivial⟩ ⟨hx, hy, by omega, rfl⟩ trivial
  clear hx hy
  rintro ⟨x, y⟩ wc ⟨hx, hy, hxy, hwc⟩
  subst hwc
  repeat (first | refine sp ?_ | (refine is_load ?_; refine ld ?_) | (refine is_store ?_; refine sr ?_) | (refine is_alloc ?_; refine al ?_) | (refine is_box ?_; refine bx ?_) | (refine isl_load ?_; refine ldl ?_) | (refine isl_store ?_; refine srl ?_) | (refine isl_alloc ?_; refine all' ?_) | (refine isl_box ?_; refine bxl ?_))
  refine go_call rfl rfl (c_Between wc _ _ l x y (hra.up.ext hx24) (by omega) (by omega)) ?_
  rintro vw w5 ⟨how, hx5⟩
  have hlw := rng_len x y l
  obtain ⟨W, hW⟩ : ∃ W, rng x y l = W := ⟨_, rfl⟩
  rw [hW] at how hlw
  obtain ⟨sw, kw, rfl, _, _⟩ := Own.slice how
  have hol : (pgOrd ⟨x, y, 1, rev⟩ W).length = W.length := pgOrd_len _ _
  repeat (first | refine sp ?_ | (refine is_load ?_; refine ld ?_) | (refine is_store ?_; refine sr ?_) | (refine is_alloc ?_; refine al ?_) | (refine is_box ?_; refine bx ?_) | (refine isl_load ?_; refine ldl ?_) | (refine isl_store ?_; refine srl ?_) | (refine isl_alloc ?_; refine all' ?_) | (refine isl_box ?_; refine bxl ?_))
  have hwcl : l = t.ents := hen.symm
  have hsl : Srt l := hok.srt
  have hil : InE l := hok.ine
  have hiW : InE W := by rw [← hW]; exact InE.rng hil
  have hpw : p < wc.heap.size := hpl
  refine go_loop (G := Value × Nat × Nat × AR) [20, 21, 22] (fun ⟨tv, n, k, _⟩ => [tv, .int .i64 (n : Int), .int .i64 (k : Int)]) [(2, .int .u64 (h : Int)), (3, .int .i64 x), (4, .int .i64 y), (5, .bool rev), (6, .slice st lims.length kt), (16, ptr p), (17, .int .u32 (t.root : Int)), (19, .slice sw W.length kw)]
    (fun ⟨tv, n, k, A⟩ w' => k ≤ n ∧ n ≤ W.length ∧ (n = 0 ∨ n < W.length) ∧ OwnB w' wc.heap.size tv (tokN h ⟨x, y, 1, rev⟩ (pgOrd ⟨x, y, 1, rev⟩ W) n) ∧ OwnE w' wc.heap.size (.slice sw W.length kw) W ∧ ArP w' lo p qp A ∧ InA A t ∧ Fr (fun b => b = p) wc w') (fun g => W.length + 1 - g.2.2.1) (.slice none 0 0, 0, 0, B) rfl ⟨rfl, rfl, rfl, rfl, rfl, rfl, rfl, rfl, trivial⟩
    ⟨by omega, by omega, Or.inl rfl, Own.nil _ _ _ _, how, g4.ar.ext hx5, g4.inA, Fr.of_ext hx5⟩ ?_
  clear how
  rintro ⟨tv, n, k, A⟩ w6 ⟨hkn, hnl, hn, hot, how, ha6, hi6, hf6⟩
  have hs6 := hf6.size
  have hlims : By w6 (.slice st lims.length kt) lims := by_frs htv ((Fr.of_ext hx04).trans hf6) fun b hb e => by omega
  obtain ⟨stk, ktk, rfl, _, _⟩ := id hot.by
  obtain ⟨T, hT⟩ : ∃ T, tokN h ⟨x, y, 1, rev⟩ (pgOrd ⟨x, y, 1, rev⟩ W) n = T := ⟨_, rfl⟩
  have hTl : T.length ≤ 60 := by rw [← hT]; unfold tokN; split; · simp
                                 · exact (tokB_len _ _ _).2
  rw [hT] at hot ⊢
  repeat (first | refine sp ?_ | (refine is_load ?_; refine ld ?_) | (refine is_store ?_; refine sr ?_) | (refine is_alloc ?_; refine al ?_) | (refine is_box ?_; refine bx ?_) | (refine isl_load ?_; refine ldl ?_) | (refine isl_store ?_; refine srl ?_) | (refine isl_alloc ?_; refine all' ?_) | (refine isl_box ?_; refine bxl ?_))
  refine go_name (F := fun w' => At w' w6.heap.size [.int .i64 x, .int .i64 y, .int .i64 1, .bool rev] 52 ∧ Ext w6 w') ⟨by (repeat (first | assumption | (refine At.new' (by (first | omega | (simp; done) | (simp; omega))) _ _) | apply At.alloc | apply At.drewN | apply At.setRow | (apply At.setRow_neF; first | assumption | (apply Ne.symm; assumption) | omega) | (apply At.extF; assumption))), by (repeat (first | exact Fr.refl _ _ | assumption | apply Fr.drewN | apply Fr.alloc | (apply Fr.transF; assumption) | (refine Fr.setRow ?_ _ (by first | exact Or.inr (by (first | omega | (simp; done) | (simp; omega))) | (exact Or.inl (by first | assumption | (simp; done)))))))⟩ ?_
  rintro w7 ⟨hb7, hx7⟩
  refine go_cut (G := Nat) [] (fun _ => []) [(2, .int .u64 (h : Int)), (3, .int .i64 x), (4, .int .i64 y), (5, .bool rev), (6, .slice st lims.length kt), (16, ptr p), (17, .int .u32 (t.root : Int)), (19, .slice sw W.length kw), (20, .slice stk T.length ktk), (21, .int .i64 (n : Int)), (22, .int .i64 (k : Int)), (23, ptr w6.heap.size)]
    (fun m w' => 1 ≤ m ∧ m ≤ 20 ∧ At w' w6.heap.size [.int .i64 x, .int .i64 y, .int .i64 (m : Int), .bool rev] 52 ∧ Ext w6 w') ?_ ?_
  · by_cases hkl : k < lims.length
    · have hlims7 := hlims.ext hx7
      obtain ⟨s', k', e, hc', hr'⟩ := hlims7
      simp only [Value.slice.injEq, true_and] at e
      obtain ⟨rfl, rfl⟩ := e
      obtain ⟨bb, oo, e, hcell⟩ := hr'.get hkl
      subst e
      generalize lims[k] = c at *
      have hcl := c.isLt
      repeat (first | refine sp ?_ | (refine is_load ?_; refine ld ?_) | (refine is_store ?_; refine sr ?_) | (refine is_alloc ?_; refine al ?_) | (refine is_box ?_; refine bx ?_) | (refine isl_load ?_; refine ldl ?_) | (refine isl_store ?_; refine srl ?_) | (refine isl_alloc ?_; refine all' ?_) | (refine isl_box ?_; refine bxl ?_))
      have e : ((1 + c.toNat % 20 : Nat) : Int) = 1 + (c.toNat : Int) % 20 := by omega
      exact go_stop (G := Nat) (1 + c.toNat % 20) rfl ⟨rfl, rfl, rfl, rfl, rfl, rfl, rfl, rfl, rfl, rfl, rfl, rfl, trivial⟩ ⟨by omega, by omega, by rw [e]; (repeat (first | assumption | (refine At.new' (by (first | omega | (simp; done) | (simp; omega))) _ _) | apply At.alloc | apply At.drewN | apply At.setRow | (apply At.setRow_neF; first | assumption | (apply Ne.symm; assumption) | omega) | (apply At.extF; assumption))), hx7.setRow _ (Or.inr (Nat.le_refl _))⟩ trivial
    · repeat (first | refine sp ?_ | (refine is_load ?_; refine ld ?_) | (refine is_store ?_; refine sr ?_) | (refine is_alloc ?_; refine al ?_) | (refine is_box ?_; refine bx ?_) | (refine isl_load ?_; refine ldl ?_) | (refine isl_store ?_; refine srl ?_) | (refine isl_alloc ?_; refine all' ?_) | (refine isl_box ?_; refine bxl ?_))
      exact go_stop (G := Nat) 1 rfl ⟨rfl, rfl, rfl, rfl, rfl, rfl, rfl, rfl, rfl, rfl, rfl, rfl, trivial⟩ ⟨by omega, by omega, hb7, hx7⟩ trivial
  clear hx7 hb7
  rintro m w8 ⟨hm1, hm2, hb8, hx8⟩
  have hs8 := hx8.size
  have hb8l := hb8.lt
  have hpgs : pgP l h ⟨x, y, m, rev⟩ T = pgFin h ⟨x, y, m, rev⟩ ((pgOrd ⟨x, y, 1, rev⟩ W).drop n) := by
    rw [← hT, ← hW]
    exact pg_step hsl hil hh (q := ⟨x, y, m, rev⟩) ⟨hx, hy, by constructor <;> simp only <;> omega⟩ (by simp only; omega) (by simp only; omega) hxy (by show n = 0 ∨ n < (rng x y l).length; rw [hW]; exact hn)
  obtain ⟨O, hO⟩ : ∃ O, pgOrd ⟨x, y, 1, rev⟩ W = O := ⟨_, rfl⟩
  rw [hO] at hpgs hol
  have hOi : InE O := by
    rw [← hO]; unfold pgOrd; split
    · exact fun e he' => hiW e (List.mem_reverse.1 he')
    · exact hiW
  obtain ⟨P, hP⟩ : ∃ P, (O.drop n).take m = P := ⟨_, rfl⟩
  have hPl : P.length = min m (W.length - n) := by rw [← hP]; simp [hol]
  obtain ⟨T2, hT2⟩ : ∃ T2, pgFin h ⟨x, y, m, rev⟩ (O.drop n) = ⟨P, T2, 0⟩ ∧ (W.length - n ≤ m → T2 = []) ∧ (m < W.length - n → 0 < T2.length ∧ T2 = tokN h ⟨x, y, 1, rev⟩ O (n + m)) := by
    unfold pgFin
    by_cases hc : W.length - n ≤ m
    · refine ⟨[], ?_, fun _ => rfl, fun h => by omega⟩
      rw [if_pos (by simp [hol]; omega), ← hP, List.take_of_length_le (by simp [hol]; omega)]
    · refine ⟨tokN h ⟨x, y, 1, rev⟩ O (n + m), ?_, fun h => absurd h hc, fun _ => ⟨?_, rfl⟩⟩
      · rw [if_neg (by simp [hol]; omega)]
        simp only [Int.toNat_natCast]
        rw [hP]
        unfold tokN
        rw [if_neg (by omega)]
        have e3 : (O.drop n).getD (m - 1) (0, 0) = O.getD (n + m - 1) (0, 0) := by
          rw [List.getD_eq_getElem?_getD, List.getD_eq_getElem?_getD, List.getElem?_drop]
          congr 2; omega
        rw [e3]
        rfl
      · unfold tokN; rw [if_neg (by omega)]; exact (tokB_len _ _ _).1
  obtain ⟨hT2, hTe, hTn⟩ := hT2
  rw [hT2] at hpgs
  have ha8 := ha6.ext hx8
  repeat (first | refine sp ?_ | (refine is_load ?_; refine ld ?_) | (refine is_store ?_; refine sr ?_) | (refine is_alloc ?_; refine al ?_) | (refine is_box ?_; refine bx ?_) | (refine isl_load ?_; refine ldl ?_) | (refine isl_store ?_; refine srl ?_) | (refine isl_alloc ?_; refine all' ?_) | (refine isl_box ?_; refine bxl ?_))
  refine go_call rfl rfl (c_Page w8 lo p qp A t h ⟨x, y, m, rev⟩ _ T ha8 hi6 g4.ine g4.srt (by omega) hh ⟨hx, hy, by constructor <;> simp only <;> omega⟩ (hot.ext hx8).by (by omega)) ?_
  rintro _ w9 ⟨hpg, ⟨A9, n9, ha9, hR9⟩, hf9⟩
  rw [hen, hpgs] at hpg
  obtain ⟨v1, v2, rfl, hv1, hv2⟩ := hpg
  have hi9 := hR9.inA hi6
  have hb9 := hb8.fr hf9 (by omega)
  have hs9 := hf9.size
  have how9 : OwnE w9 wc.heap.size (.slice sw W.length kw) W := Own.fr (Own.ext how hx8) hf9 fun b hb e => by omega
  obtain ⟨s1, k1, rfl, hk1, _⟩ := Own.slice hv1
  obtain ⟨s2, k2, rfl, hk2, _⟩ := Own.slice hv2
  simp only [List.length_map] at hv1 hv2 ⊢
  repeat (first | refine sp ?_ | (refine is_load ?_; refine ld ?_) | (refine is_store ?_; refine sr ?_) | (refine is_alloc ?_; refine al ?_) | (refine is_box ?_; refine bx ?_) | (refine isl_load ?_; refine ldl ?_) | (refine isl_store ?_; refine srl ?_) | (refine isl_alloc ?_; refine all' ?_) | (refine isl_box ?_; refine bxl ?_))
  refine go_loop (G := Nat) [27] (fun i => [.int .i64 (i : Int)]) [(2, .int .u64 (h : Int)), (3, .int .i64 x), (4, .int .i64 y), (5, .bool rev), (6, .slice st lims.length kt), (16, ptr p), (17, .int .u32 (t.root : Int)), (19, .slice sw W.length kw), (21, .int .i64 (n : Int)), (22, .int .i64 (k : Int)), (24, .slice s1 P.length k1), (25, .slice s2 T2.length k2)]
    (fun i w' => i ≤ P.length ∧ Ext w9 w') (fun i => P.length - i) 0 rfl ⟨rfl, rfl, rfl, rfl, rfl, rfl, rfl, rfl, rfl, rfl, rfl, rfl, trivial⟩ ⟨by omega, Fr.refl _ _⟩ ?_
  rintro i w10 ⟨hi, hx10⟩
  by_cases hlt : i < P.length
  · obtain ⟨j, hj⟩ : ∃ j, (if rev = true then W.length - 1 - (n + i) else n + i) = j := ⟨_, rfl⟩
    have hjl : j < W.length := by rw [← hj]; split <;> omega
    have hPW : P[i] = W[j] := by
      have e1 : P[i]? = O[n + i]? := by rw [← hP, List.getElem?_take, if_pos (by omega), List.getElem?_drop]
      have e2 : O[n + i]? = W[j]? := by
        rw [← hO, ← hj]
        unfold pgOrd
        cases rev
        · rfl
        · simp only [if_true]
          rw [List.getElem?_reverse (by omega)]
      rw [List.getElem?_eq_getElem hlt] at e1
      rw [List.getElem?_eq_getElem hjl] at e2
      exact Option.some.inj (e1.trans e2)
    obtain ⟨b1, o1, es, _, hcell1⟩ := ((Own.rd hv1 rfl).up.ext hx10).at (m := 2) (fun _ => rfl) (by omega) hlt
    subst es
    obtain ⟨b2, o2, es, _, hcell2⟩ := ((Own.rd how9 rfl).up.ext hx10).at (m := 2) (fun _ => rfl) (by omega) hjl
    subst es
    rw [hPW] at hcell1
    generalize W[j] = z at *
    have hst1 : (∀ j' u, (entC z)[j']? = some u → w10.cell? ((⟨b1, o1 + i * 2, none⟩ : Addr).add j') = some u) := fun j' u hj => by rw [addr_add]; exact hcell1 j' u hj
    have hst2 : (∀ j' u, (entC z)[j']? = some u → w10.cell? ((⟨b2, o2 + j * 2, none⟩ : Addr).add j') = some u) := fun j' u hj => by rw [addr_add]; exact hcell2 j' u hj
    cases rev
    · obtain rfl : j = n + i := hj.symm
      obtain ⟨j, hjj⟩ : ∃ j, n + i = j := ⟨_, rfl⟩
      repeat (first | refine sp ?_ | (refine is_load ?_; refine ld ?_) | (refine is_store ?_; refine sr ?_) | (refine is_alloc ?_; refine al ?_) | (refine is_box ?_; refine bx ?_) | (refine isl_load ?_; refine ldl ?_) | (refine isl_store ?_; refine srl ?_) | (refine isl_alloc ?_; refine all' ?_) | (refine isl_box ?_; refine bxl ?_) | refine dr Try.follows ?_)
      refine gol_load (v := .agg (entC z).toArray) rfl rfl (ldD_cells (m := 2) (w := w10) rfl (by decide) hst1 id) ?_
      repeat (first | refine sp ?_ | (refine is_load ?_; refine ld ?_) | (refine is_store ?_; refine sr ?_) | (refine is_alloc ?_; refine al ?_) | (refine is_box ?_; refine bx ?_) | (refine isl_load ?_; refine ldl ?_) | (refine isl_store ?_; refine srl ?_) | (refine isl_alloc ?_; refine all' ?_) | (refine isl_box ?_; refine bxl ?_) | refine dr Try.follows ?_)
      refine go_as 123 (u' := .int .i64 (j : Int)) rfl (by congr 1; omega) ?_
      repeat (first | refine sp ?_ | (refine is_load ?_; refine ld ?_) | (refine is_store ?_; refine sr ?_) | (refine is_alloc ?_; refine al ?_) | (refine is_box ?_; refine bx ?_) | (refine isl_load ?_; refine ldl ?_) | (refine isl_store ?_; refine srl ?_) | (refine isl_alloc ?_; refine all' ?_) | (refine isl_box ?_; refine bxl ?_) | refine dr Try.follows ?_)
      refine gol_load (v := .agg (entC z).toArray) rfl rfl (ldD_cells (m := 2) (w := w10) rfl (by decide) hst2 id) ?_
      unfold entC
      repeat (first | refine sp ?_ | (refine is_load ?_; refine ld ?_) | (refine is_store ?_; refine sr ?_) | (refine is_alloc ?_; refine al ?_) | (refine is_box ?_; refine bx ?_) | (refine isl_load ?_; refine ldl ?_) | (refine isl_store ?_; refine srl ?_) | (refine isl_alloc ?_; refine all' ?_) | (refine isl_box ?_; refine bxl ?_) | refine dr Try.follows ?_)
      refine go_as 126 (u' := .bool false) rfl (by simp [eqL]) ?_
      repeat (first | refine sp ?_ | (refine is_load ?_; refine ld ?_) | (refine is_store ?_; refine sr ?_) | (refine is_alloc ?_; refine al ?_) | (refine is_box ?_; refine bx ?_) | (refine isl_load ?_; refine ldl ?_) | (refine isl_store ?_; refine srl ?_) | (refine isl_alloc ?_; refine all' ?_) | (refine isl_box ?_; refine bxl ?_) | refine dr Try.follows ?_)
      exact go_stop (G := Nat) (i + 1) rfl ⟨rfl, rfl, rfl, rfl, rfl, rfl, rfl, rfl, rfl, rfl, rfl, rfl, trivial⟩ ⟨hlt, hx10.trans (by (repeat (first | exact Fr.refl _ _ | assumption | apply Fr.drewN | apply Fr.alloc | (apply Fr.transF; assumption) | (refine Fr.setRow ?_ _ (by first | exact Or.inr (by (first | omega | (simp; done) | (simp; omega))) | (exact Or.inl (by first | assumption | (simp; done))))))))⟩ (by show P.length - (i + 1) < P.length - i; omega)
    · have hj : W.length - 1 - (n + i) = j := hj
      repeat (first | refine sp ?_ | (refine is_load ?_; refine ld ?_) | (refine is_store ?_; refine sr ?_) | (refine is_alloc ?_; refine al ?_) | (refine is_box ?_; refine bx ?_) | (refine isl_load ?_; refine ldl ?_) | (refine isl_store ?_; refine srl ?_) | (refine isl_alloc ?_; refine all' ?_) | (refine isl_box ?_; refine bxl ?_) | refine dr Try.follows ?_)
      refine gol_load (v := .agg (entC z).toArray) rfl rfl (ldD_cells (m := 2) (w := w10) rfl (by decide) hst1 id) ?_
      repeat (first | refine sp ?_ | (refine is_load ?_; refine ld ?_) | (refine is_store ?_; refine sr ?_) | (refine is_alloc ?_; refine al ?_) | (refine is_box ?_; refine bx ?_) | (refine isl_load ?_; refine ldl ?_) | (refine isl_store ?_; refine srl ?_) | (refine isl_alloc ?_; refine all' ?_) | (refine isl_box ?_; refine bxl ?_) | refine dr Try.follows ?_)
      refine go_as 123 (u' := .int .i64 (j : Int)) rfl (by congr 1; omega) ?_
      repeat (first | refine sp ?_ | (refine is_load ?_; refine ld ?_) | (refine is_store ?_; refine sr ?_) | (refine is_alloc ?_; refine al ?_) | (refine is_box ?_; refine bx ?_) | (refine isl_load ?_; refine ldl ?_) | (refine isl_store ?_; refine srl ?_) | (refine isl_alloc ?_; refine all' ?_) | (refine isl_box ?_; refine bxl ?_) | refine dr Try.follows ?_)
      refine gol_load (v := .agg (entC z).toArray) rfl rfl (ldD_cells (m := 2) (w := w10) rfl (by decide) hst2 id) ?_
      unfold entC
      repeat (first | refine sp ?_ | (refine is_load ?_; refine ld ?_) | (refine is_store ?_; refine sr ?_) | (refine is_alloc ?_; refine al ?_) | (refine is_box ?_; refine bx ?_) | (refine isl_load ?_; refine ldl ?_) | (refine isl_store ?_; refine srl ?_) | (refine isl_alloc ?_; refine all' ?_) | (refine isl_box ?_; refine bxl ?_) | refine dr Try.follows ?_)
      refine go_as 126 (u' := .bool false) rfl (by simp [eqL]) ?_
      repeat (first | refine sp ?_ | (refine is_load ?_; refine ld ?_) | (refine is_store ?_; refine sr ?_) | (refine is_alloc ?_; refine al ?_) | (refine is_box ?_; refine bx ?_) | (refine isl_load ?_; refine ldl ?_) | (refine isl_store ?_; refine srl ?_) | (refine isl_alloc ?_; refine all' ?_) | (refine isl_box ?_; refine bxl ?_) | refine dr Try.follows ?_)
      exact go_stop (G := Nat) (i + 1) rfl ⟨rfl, rfl, rfl, rfl, rfl, rfl, rfl, rfl, rfl, rfl, rfl, rfl, trivial⟩ ⟨hlt, hx10.trans (by (repeat (first | exact Fr.refl _ _ | assumption | apply Fr.drewN | apply Fr.alloc | (apply Fr.transF; assumption) | (refine Fr.setRow ?_ _ (by first | exact Or.inr (by (first | omega | (simp; done) | (simp; omega))) | (exact Or.inl (by first | assumption | (simp; done))))))))⟩ (by show P.length - (i + 1) < P.length - i; omega)
  · obtain rfl : i = P.length := by omega
    have ha10 := ha9.ext hx10
    have ho10 := Own.ext how9 hx10
    have hv10 := Own.ext hv2 hx10
    have hf10 : Fr (fun b => b = p) wc w10 := ((hf6.trans (Fr.of_ext hx8)).trans hf9).trans (Fr.of_ext hx10)
    by_cases hc : W.length - n ≤ m
    · have e1 := hTe hc
      subst e1
      simp only [List.length_nil]
      repeat (first | refine sp ?_ | (refine is_load ?_; refine ld ?_) | (refine is_store ?_; refine sr ?_) | (refine is_alloc ?_; refine al ?_) | (refine is_box ?_; refine bx ?_) | (refine isl_load ?_; refine ldl ?_) | (refine isl_store ?_; refine srl ?_) | (refine isl_alloc ?_; refine all' ?_) | (refine isl_box ?_; refine bxl ?_))
      refine go_ret1 rfl rfl ⟨_, rfl, ?_, hx04.trans' hf10 fun b hb e => by omega⟩
      first | rfl | (simp; done) | (simp; omega)
    · obtain ⟨e1, e2⟩ := hTn (by omega)
      have e3 : ((n + P.length : Nat) : Int) = (n : Int) + P.length := by omega
      repeat (first | refine sp ?_ | (refine is_load ?_; refine ld ?_) | (refine is_store ?_; refine sr ?_) | (refine is_alloc ?_; refine al ?_) | (refine is_box ?_; refine bx ?_) | (refine isl_load ?_; refine ldl ?_) | (refine isl_store ?_; refine srl ?_) | (refine isl_alloc ?_; refine all' ?_) | (refine isl_box ?_; refine bxl ?_))
      have q1 : P.length = m := by omega
      refine go_stop (G := Value × Nat × Nat × AR) (.slice s2 T2.length k2, n + P.length, k + 1, A9) (by rw [e3]; rfl) ⟨rfl, rfl, rfl, rfl, rfl, rfl, rfl, rfl, trivial⟩ ⟨show k + 1 ≤ n + P.length by omega, show n + P.length ≤ W.length by omega, Or.inr (show n + P.length < W.length by omega), ?_, ho10, ha10, hi9, hf10⟩ (by show W.length + 1 - (k + 1) < W.length + 1 - k; omega)
      rw [hO, show n + P.length = n + m by omega, ← e2]
      exact OwnB.mono hv10 (by omega)

end Go.Proofs.Yteghhalnpdikoaa
