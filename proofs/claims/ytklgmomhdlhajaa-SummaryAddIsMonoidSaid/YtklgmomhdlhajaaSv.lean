/-
  The summaries of ranges and of first entries.
-/
import Derived.Test.YtklgmomhdlhajaaSu
set_option linter.unusedVariables false
namespace Go.Proofs.Ytklgmomhdlhajaa
open Go.Vc

def rngP (x y : Int) (e : Int × Int) : Bool := decide (x ≤ e.1 ∧ e.1 ≤ y)

theorem Sm.add_n {x y : Sm} : (x.add y).n = x.n + y.n := by
  unfold Sm.add
  split
  · rename_i h0; rw [h0]; omega
  · split
    · rename_i h0; omega
    · rfl
theorem smF_n (p : Int × Int → Bool) (l : List (Int × Int)) : 0 ≤ (smF p l).n ∧ (smF p l).n ≤ (l.length : Int) := by
  unfold smF
  rw [smy_n]
  have := List.length_filter_le p l
  simp only [List.length_map]; omega

set_option maxHeartbeats 4000000 in
theorem c_Range (w : World) (lo p : Nat) (q : AP) (A : AR) (t : Tr) (x y : Int) (ha : ArP w lo p q A) (hi : InA A t) (he : InE t.ents) (ho : Srt t.ents) (hs : t.sz ≤ 1000000) (hr : t.root < 4294967296) :
    Calls Try.prog 25 [ptr p, .int .u32 (t.root : Int), .int .i64 x, .int .i64 y].toArray w (Ret (RdR w lo p q A (4 * t.ht) (.agg ⟨(smF (rngP x y) t.ents).cells⟩))) := by
  have hpl := ha.lt p ha.fpp
  refine calls_go Try.func25 rfl Try.ntmps25 (Nat.le_of_ble_eq_true rfl) ?_
  by_cases hxy : y < x
  · repeat (first | refine sp ?_ | (refine is_load ?_; refine ld ?_) | (refine is_store ?_; refine sr ?_) | (refine is_alloc ?_; refine al ?_) | (refine is_box ?_; refine bx ?_) | (refine isl_load ?_; refine ldl ?_) | (refine isl_store ?_; refine srl ?_) | (refine isl_alloc ?_; refine all' ?_) | (refine isl_box ?_; refine bxl ?_) | refine dr Try.follows ?_)
    refine go_ret1 rfl ⟨_, rfl, Ld.run (ld_part (by (repeat (first | assumption | (refine At.new' (by (first | omega | (simp; done) | (simp; omega))) _ _) | apply At.alloc | apply At.drewN | apply At.setRow | (apply At.setRow_neF; first | assumption | (apply Ne.symm; assumption) | omega) | (apply At.extF; assumption)))) rfl rfl)⟩ ⟨_, rfl, RdR.fin ?_ ha ha (Rds.refl _ _) (Fr.refl _ _) (by (repeat (first | exact Fr.refl _ _ | assumption | apply Fr.drewN | apply Fr.alloc | (apply Fr.transF; assumption) | (refine Fr.setRow ?_ _ (by first | exact Or.inr (by (first | omega | (simp; done) | (simp; omega))) | (exact Or.inl (by first | assumption | (simp; done))))))))⟩
    rw [show smF (rngP x y) t.ents = Sm.zero from smF_none fun e _ => by simp [rngP]; omega]; rfl
  repeat (first | refine sp ?_ | (refine is_load ?_; refine ld ?_) | (refine is_store ?_; refine sr ?_) | (refine is_alloc ?_; refine al ?_) | (refine is_box ?_; refine bx ?_) | (refine isl_load ?_; refine ldl ?_) | (refine isl_store ?_; refine srl ?_) | (refine isl_alloc ?_; refine all' ?_) | (refine isl_box ?_; refine bxl ?_) | refine dr Try.follows ?_)
  refine go_loop (G := Tr × AR) [9] (fun ⟨t', _⟩ => [.int .u32 (t'.root : Int)]) [(0, ptr p), (2, .int .i64 x), (3, .int .i64 y), (8, ptr w.heap.size)]
    (fun ⟨t', B⟩ w' => InA B t' ∧ InE t'.ents ∧ Srt t'.ents ∧ smF (rngP x y) t'.ents = smF (rngP x y) t.ents ∧ t'.sz ≤ t.sz ∧ t'.ht ≤ t.ht ∧ Rds A B (t.ht - t'.ht) ∧ ArP w' lo p q B ∧ Fr (fun b => b = p) w w' ∧
      At w' w.heap.size [.int .i64 0, .int .i64 0, .int .i64 0, .int .i64 0] 23 ∧ w.heap.size + 1 ≤ w'.heap.size)
    (fun g => g.1.sz) (t, A) rfl ⟨rfl, rfl, rfl, rfl, trivial⟩
    ⟨hi, he, ho, rfl, Nat.le_refl _, Nat.le_refl _, Rds.refl _ _, ha.ext (by (repeat (first | exact Fr.refl _ _ | assumption | apply Fr.drewN | apply Fr.alloc | (apply Fr.transF; assumption) | (refine Fr.setRow ?_ _ (by first | exact Or.inr (by (first | omega | (simp; done) | (simp; omega))) | (exact Or.inl (by first | assumption | (simp; done)))))))), by (repeat (first | exact Fr.refl _ _ | assumption | apply Fr.drewN | apply Fr.alloc | (apply Fr.transF; assumption) | (refine Fr.setRow ?_ _ (by first | exact Or.inr (by (first | omega | (simp; done) | (simp; omega))) | (exact Or.inl (by first | assumption | (simp; done))))))), by (repeat (first | assumption | (refine At.new' (by (first | omega | (simp; done) | (simp; omega))) _ _) | apply At.alloc | apply At.drewN | apply At.setRow | (apply At.setRow_neF; first | assumption | (apply Ne.symm; assumption) | omega) | (apply At.extF; assumption))), by simp⟩ ?_
  rintro ⟨t', B⟩ w1 ⟨hi1, he1, ho1, hsum, hn1, hht, hB, ha1, hF1, hat0, hl1⟩
  cases t' with
  | nil =>
    repeat (first | refine sp ?_ | (refine is_load ?_; refine ld ?_) | (refine is_store ?_; refine sr ?_) | (refine is_alloc ?_; refine al ?_) | (refine is_box ?_; refine bx ?_) | (refine isl_load ?_; refine ldl ?_) | (refine isl_store ?_; refine srl ?_) | (refine isl_alloc ?_; refine all' ?_) | (refine isl_box ?_; refine bxl ?_))
    refine go_ret1 rfl ⟨_, rfl, Ld.run (ld_part (by (repeat (first | assumption | (refine At.new' (by (first | omega | (simp; done) | (simp; omega))) _ _) | apply At.alloc | apply At.drewN | apply At.setRow | (apply At.setRow_neF; first | assumption | (apply Ne.symm; assumption) | omega) | (apply At.extF; assumption)))) rfl rfl)⟩ ⟨_, rfl, RdR.fin ?_ ha ha1 (hB.mono (by omega)) hF1 (by (repeat (first | exact Fr.refl _ _ | assumption | apply Fr.drewN | apply Fr.alloc | (apply Fr.transF; assumption) | (refine Fr.setRow ?_ _ (by first | exact Or.inr (by (first | omega | (simp; done) | (simp; omega))) | (exact Or.inl (by first | assumption | (simp; done))))))))⟩
    rw [← hsum]; rfl
  | nd i l k v r =>
    have h0 : i ≠ 0 := by have := hi1.1; omega
    refine go_as 9 (u' := .int .u32 (i : Int)) rfl rfl ?_
    obtain ⟨hel, her, hkk, hvv⟩ := he1.nd
    obtain ⟨hol, hor, hlt, hgt⟩ := ho1.nd
    have hsz : (Tr.nd i l k v r).sz = l.sz + 1 + r.sz := rfl
    have hhd : (Tr.nd i l k v r).ht = 1 + max l.ht r.ht := rfl
    obtain ⟨hri, hrl, hrr⟩ := hi1.roots ha1.wf
    have hnd := smF_nd (p := rngP x y) he1
    repeat (first | refine sp ?_ | (refine is_load ?_; refine ld ?_) | (refine is_store ?_; refine sr ?_) | (refine is_alloc ?_; refine al ?_) | (refine is_box ?_; refine bx ?_) | (refine isl_load ?_; refine ldl ?_) | (refine isl_store ?_; refine srl ?_) | (refine isl_alloc ?_; refine all' ?_) | (refine isl_box ?_; refine bxl ?_) | refine dr Try.follows ?_)
    refine go_call rfl rfl (p_Node _ lo p q B i ha1 hri) ?_
    rintro _ w2 ⟨rfl, ha2, hf2⟩
    rw [show B.used i = true from hi1.2.1, hi1.nodeL he1 (by omega)]
    generalize smy (Tr.nd i l k v r).vals = S
    have hat0' := hat0.fr hf2 (by omega)
    have hl2 := hf2.size
    have hi2 := hi1.read i
    by_cases hc : k < x
    · repeat (first | refine sp ?_ | (refine is_load ?_; refine ld ?_) | (refine is_store ?_; refine sr ?_) | (refine is_alloc ?_; refine al ?_) | (refine is_box ?_; refine bx ?_) | (refine isl_load ?_; refine ldl ?_) | (refine isl_store ?_; refine srl ?_) | (refine isl_alloc ?_; refine all' ?_) | (refine isl_box ?_; refine bxl ?_) | refine dr Try.follows ?_)
      refine go_stop (G := Tr × AR) (r, B.read i) rfl ⟨rfl, rfl, rfl, rfl, trivial⟩ ⟨hi2.2.2.2.2, her, hor, ?_, by omega, by omega, (hB.trans (Rds.read B i)).mono (by omega), ha2.ext (by (repeat (first | exact Fr.refl _ _ | assumption | apply Fr.drewN | apply Fr.alloc | (apply Fr.transF; assumption) | (refine Fr.setRow ?_ _ (by first | exact Or.inr (by (first | omega | (simp; done) | (simp; omega))) | (exact Or.inl (by first | assumption | (simp; done)))))))), (hF1.trans hf2).trans (by (repeat (first | exact Fr.refl _ _ | assumption | apply Fr.drewN | apply Fr.alloc | (apply Fr.transF; assumption) | (refine Fr.setRow ?_ _ (by first | exact Or.inr (by (first | omega | (simp; done) | (simp; omega))) | (exact Or.inl (by first | assumption | (simp; done)))))))), by (repeat (first | assumption | (refine At.new' (by (first | omega | (simp; done) | (simp; omega))) _ _) | apply At.alloc | apply At.drewN | apply At.setRow | (apply At.setRow_neF; first | assumption | (apply Ne.symm; assumption) | omega) | (apply At.extF; assumption))), by simp; omega⟩ (by show r.sz < l.sz + 1 + r.sz; omega)
      rw [← hsum, hnd, if_neg (by simp [rngP]; omega), Sm.zero_add, show smF (rngP x y) l.ents = Sm.zero from smF_none fun e he => by have := hlt e he; simp [rngP]; omega, Sm.zero_add]
    by_cases hc2 : y < k
    · repeat (first | refine sp ?_ | (refine is_load ?_; refine ld ?_) | (refine is_store ?_; refine sr ?_) | (refine is_alloc ?_; refine al ?_) | (refine is_box ?_; refine bx ?_) | (refine isl_load ?_; refine ldl ?_) | (refine isl_store ?_; refine srl ?_) | (refine isl_alloc ?_; refine all' ?_) | (refine isl_box ?_; refine bxl ?_) | refine dr Try.follows ?_)
      refine go_stop (G := Tr × AR) (l, B.read i) rfl ⟨rfl, rfl, rfl, rfl, trivial⟩ ⟨hi2.2.2.2.1, hel, hol, ?_, by omega, by omega, (hB.trans (Rds.read B i)).mono (by omega), ha2.ext (by (repeat (first | exact Fr.refl _ _ | assumption | apply Fr.drewN | apply Fr.alloc | (apply Fr.transF; assumption) | (refine Fr.setRow ?_ _ (by first | exact Or.inr (by (first | omega | (simp; done) | (simp; omega))) | (exact Or.inl (by first | assumption | (simp; done)))))))), (hF1.trans hf2).trans (by (repeat (first | exact Fr.refl _ _ | assumption | apply Fr.drewN | apply Fr.alloc | (apply Fr.transF; assumption) | (refine Fr.setRow ?_ _ (by first | exact Or.inr (by (first | omega | (simp; done) | (simp; omega))) | (exact Or.inl (by first | assumption | (simp; done)))))))), by (repeat (first | assumption | (refine At.new' (by (first | omega | (simp; done) | (simp; omega))) _ _) | apply At.alloc | apply At.drewN | apply At.setRow | (apply At.setRow_neF; first | assumption | (apply Ne.symm; assumption) | omega) | (apply At.extF; assumption))), by simp; omega⟩ (by show l.sz < l.sz + 1 + r.sz; omega)
      rw [← hsum, hnd, if_neg (by simp [rngP]; omega), Sm.zero_add, show smF (rngP x y) r.ents = Sm.zero from smF_none fun e he => by have := hgt e he; simp [rngP]; omega, Sm.add_zero (smF_ok hel)]
    · repeat (first | refine sp ?_ | (refine is_load ?_; refine ld ?_) | (refine is_store ?_; refine sr ?_) | (refine is_alloc ?_; refine al ?_) | (refine is_box ?_; refine bx ?_) | (refine isl_load ?_; refine ldl ?_) | (refine isl_store ?_; refine srl ?_) | (refine isl_alloc ?_; refine all' ?_) | (refine isl_box ?_; refine bxl ?_))
      refine go_name (F := fun w3 => At w3 w2.heap.size [.int .i64 k, .int .i64 v, .int .u32 (l.root : Int), .int .u32 (r.root : Int), .int .i64 S.n, .int .i64 S.s, .int .i64 S.mn, .int .i64 S.mx] 64 ∧ At w3 w.heap.size [.int .i64 0, .int .i64 0, .int .i64 0, .int .i64 0] 23 ∧ ArP w3 lo p q (B.read i) ∧ Fr (fun b => b = p) w w3 ∧ w3.heap.size = w2.heap.size + 1) ⟨by (repeat (first | assumption | (refine At.new' (by (first | omega | (simp; done) | (simp; omega))) _ _) | apply At.alloc | apply At.drewN | apply At.setRow | (apply At.setRow_neF; first | assumption | (apply Ne.symm; assumption) | omega) | (apply At.extF; assumption))), by (repeat (first | assumption | (refine At.new' (by (first | omega | (simp; done) | (simp; omega))) _ _) | apply At.alloc | apply At.drewN | apply At.setRow | (apply At.setRow_neF; first | assumption | (apply Ne.symm; assumption) | omega) | (apply At.extF; assumption))), ha2.ext (by (repeat (first | exact Fr.refl _ _ | assumption | apply Fr.drewN | apply Fr.alloc | (apply Fr.transF; assumption) | (refine Fr.setRow ?_ _ (by first | exact Or.inr (by (first | omega | (simp; done) | (simp; omega))) | (exact Or.inl (by first | assumption | (simp; done)))))))), (hF1.trans hf2).trans (by (repeat (first | exact Fr.refl _ _ | assumption | apply Fr.drewN | apply Fr.alloc | (apply Fr.transF; assumption) | (refine Fr.setRow ?_ _ (by first | exact Or.inr (by (first | omega | (simp; done) | (simp; omega))) | (exact Or.inl (by first | assumption | (simp; done)))))))), by simp⟩ ?_
      rintro w3 ⟨hat2, hat1, ha3, hF3, hl3⟩
      refine go_drawE (Fr (fun b => b = p) w3) 1 Try.follows (by kernel_rfl) (by kernel_rfl) (by kernel_rfl) ((Fr.refl _ _).drewN 1) ?_
      repeat (first | refine sp ?_ | (refine is_load ?_; refine ld ?_) | (refine is_store ?_; refine sr ?_) | (refine is_alloc ?_; refine al ?_) | (refine is_box ?_; refine bx ?_) | (refine isl_load ?_; refine ldl ?_) | (refine isl_store ?_; refine srl ?_) | (refine isl_alloc ?_; refine all' ?_) | (refine isl_box ?_; refine bxl ?_))
      refine gol_call rfl rfl (c_one v _) ?_
      rintro _ w4 ⟨rfl, hf4⟩
      have g4 : Fr (fun b => b = p) w3 w4 := Fr.trans ((Fr.refl _ _).drewN 1) (Fr.of_ext hf4)
      refine ⟨g4, ?_⟩
      repeat (first | refine sp ?_ | (refine is_load ?_; refine ld ?_) | (refine is_store ?_; refine sr ?_) | (refine is_alloc ?_; refine al ?_) | (refine is_box ?_; refine bx ?_) | (refine isl_load ?_; refine ldl ?_) | (refine isl_store ?_; refine srl ?_) | (refine isl_alloc ?_; refine all' ?_) | (refine isl_box ?_; refine bxl ?_))
      refine gol_call rfl rfl (c_from w4 lo p q (B.read i) l x ((ha3.ext (Fr.drewN (Fr.refl _ _) 1)).ext hf4) hi2.2.2.2.1 hel hol (by omega) hrl) ?_
      rintro _ w5 ⟨rfl, B5, ha5, hB5, hf5⟩
      have g5 := g4.trans hf5
      refine ⟨g5, ?_⟩
      repeat (first | refine sp ?_ | (refine is_load ?_; refine ld ?_) | (refine is_store ?_; refine sr ?_) | (refine is_alloc ?_; refine al ?_) | (refine is_box ?_; refine bx ?_) | (refine isl_load ?_; refine ldl ?_) | (refine isl_store ?_; refine srl ?_) | (refine isl_alloc ?_; refine all' ?_) | (refine isl_box ?_; refine bxl ?_))
      refine gol_call rfl rfl (c_to w5 lo p q B5 r y ha5 (hB5.inA hi2.2.2.2.2) her hor (by omega) hrr) ?_
      rintro _ w6 ⟨rfl, B6, ha6, hB6, hf6⟩
      have g6 := g5.trans hf6
      refine ⟨g6, ?_⟩
      have n1 := smF_n (fromP x) l.ents
      have n2 := smF_n (toP y) r.ents
      rw [l.len] at n1
      rw [r.len] at n2
      repeat (first | refine sp ?_ | (refine is_load ?_; refine ld ?_) | (refine is_store ?_; refine sr ?_) | (refine is_alloc ?_; refine al ?_) | (refine is_box ?_; refine bx ?_) | (refine isl_load ?_; refine ldl ?_) | (refine isl_store ?_; refine srl ?_) | (refine isl_alloc ?_; refine all' ?_) | (refine isl_box ?_; refine bxl ?_))
      refine gol_call rfl rfl (c_SAdd _ _ w6 (by omega) (by omega)) ?_
      rintro _ w7 ⟨rfl, hf7⟩
      have g7 := g6.trans (Fr.of_ext hf7)
      refine ⟨g7, ?_⟩
      have n3 := @Sm.add_n (smF (fromP x) l.ents) (smF (toP y) r.ents)
      repeat (first | refine sp ?_ | (refine is_load ?_; refine ld ?_) | (refine is_store ?_; refine sr ?_) | (refine is_alloc ?_; refine al ?_) | (refine is_box ?_; refine bx ?_) | (refine isl_load ?_; refine ldl ?_) | (refine isl_store ?_; refine srl ?_) | (refine isl_alloc ?_; refine all' ?_) | (refine isl_box ?_; refine bxl ?_))
      refine gol_call rfl rfl (c_SAdd (Sm.one v) _ w7 (by simp [Sm.one]) (by omega)) ?_
      rintro _ w8 ⟨rfl, hf8⟩
      have g8 := g7.trans (Fr.of_ext hf8)
      refine ⟨g8, ?_⟩
      have hx1 := hat1.fr g8 (by omega)
      have hass : (Sm.one v).add ((smF (fromP x) l.ents).add (smF (toP y) r.ents)) = smF (rngP x y) t.ents := by
        have e1 : smF (rngP x y) l.ents = smF (fromP x) l.ents := smF_congr fun e he => by have := hlt e he; simp [rngP, fromP]; omega
        have e2 : smF (rngP x y) r.ents = smF (toP y) r.ents := smF_congr fun e he => by have := hgt e he; simp [rngP, toP]; omega
        rw [← hsum, hnd, if_pos (by simp [rngP]; omega), e1, e2, ← Sm.add_assoc (Sm.one_ok hvv) (smF_ok hel) (smF_ok her), Sm.add_comm (Sm.one_ok hvv) (smF_ok hel), Sm.add_assoc (smF_ok hel) (Sm.one_ok hvv) (smF_ok her)]
      rw [hass]
      unfold Sm.cells
      repeat (first | refine sp ?_ | (refine is_load ?_; refine ld ?_) | (refine is_store ?_; refine sr ?_) | (refine is_alloc ?_; refine al ?_) | (refine is_box ?_; refine bx ?_) | (refine isl_load ?_; refine ldl ?_) | (refine isl_store ?_; refine srl ?_) | (refine isl_alloc ?_; refine all' ?_) | (refine isl_box ?_; refine bxl ?_))
      refine go_ret1 rfl ⟨_, rfl, Ld.run (ld_part (by (repeat (first | assumption | (refine At.new' (by (first | omega | (simp; done) | (simp; omega))) _ _) | apply At.alloc | apply At.drewN | apply At.setRow | (apply At.setRow_neF; first | assumption | (apply Ne.symm; assumption) | omega) | (apply At.extF; assumption)))) rfl rfl)⟩ ⟨_, rfl, RdR.fin rfl ha ((ha6.ext hf7).ext hf8) ((((hB.trans (Rds.read B i)).trans hB5).trans hB6).mono (by omega)) (hF3.trans g8) (by (repeat (first | exact Fr.refl _ _ | assumption | apply Fr.drewN | apply Fr.alloc | (apply Fr.transF; assumption) | (refine Fr.setRow ?_ _ (by first | exact Or.inr (by (first | omega | (simp; done) | (simp; omega))) | (exact Or.inl (by first | assumption | (simp; done))))))))⟩

/-! ### The first entries -/

def tk (l : List (Int × Int)) (i : Int) : Sm := smy ((l.take i.toNat).map (·.2))
theorem InE.take {l : List (Int × Int)} (h : InE l) (n : Nat) : InE (l.take n) := fun e he => h e (List.mem_of_mem_take he)
theorem InE.smy_ok {l : List (Int × Int)} (h : InE l) : (smy (l.map (·.2))).ok := Go.Proofs.Ytklgmomhdlhajaa.smy_ok fun v hv => by
  obtain ⟨e, he, rfl⟩ := List.mem_map.1 hv
  exact (h e he).2
theorem tk_left {l m : List (Int × Int)} {i : Int} (h : i ≤ l.length) : tk (l ++ m) i = tk l i := by
  unfold tk; rw [List.take_append_of_le_length (by omega)]
theorem tk_right {l m : List (Int × Int)} {k v i : Int} (hl : InE l) (hm : InE m) (hv : InV v) (h : (l.length : Int) < i) : tk (l ++ (k, v) :: m) i = ((smy (l.map (·.2))).add (Sm.one v)).add (tk m (i - (l.length + 1))) := by
  unfold tk
  obtain ⟨j, hj⟩ : ∃ j : Nat, i.toNat = l.length + (j + 1) := ⟨i.toNat - l.length - 1, by omega⟩
  have hj2 : (i - ((l.length : Int) + 1)).toNat = j := by omega
  rw [hj, hj2, List.take_length_add_append, List.take_succ_cons, List.map_append, List.map_cons, smy_append]
  · have hok := InE.smy_ok hl
    have hok2 := InE.smy_ok (hm.take j)
    rw [show smy (v :: List.map (fun x => x.2) (List.take j m)) = (Sm.one v).add (smy (List.map (fun x => x.2) (List.take j m))) from rfl, Sm.add_assoc hok (Sm.one_ok hv) hok2]
  · intro u hu
    obtain ⟨e, he, rfl⟩ := List.mem_map.1 hu
    exact (hl e he).2
  · intro u hu
    rcases List.mem_cons.1 hu with rfl | hu
    · exact hv
    · obtain ⟨e, he, rfl⟩ := List.mem_map.1 hu
      exact (hm.take j e he).2

set_option maxHeartbeats 4000000 in
theorem c_Prefix (w : World) (lo p : Nat) (q : AP) (A : AR) (t : Tr) (x : Int) (ha : ArP w lo p q A) (hi : InA A t) (he : InE t.ents) (hs : t.sz ≤ 1000000) (hx : InV x) :
    Calls Try.prog 19 [ptr p, .int .u32 (t.root : Int), .int .i64 x].toArray w (Ret (RdR w lo p q A (2 * t.ht) (.agg ⟨(tk t.ents x).cells⟩))) := by
  have hpl := ha.lt p ha.fpp
  refine calls_go Try.func19 rfl Try.ntmps19 (Nat.le_of_ble_eq_true rfl) ?_
  repeat (first | refine sp ?_ | (refine is_load ?_; refine ld ?_) | (refine is_store ?_; refine sr ?_) | (refine is_alloc ?_; refine al ?_) | (refine is_box ?_; refine bx ?_) | (refine isl_load ?_; refine ldl ?_) | (refine isl_store ?_; refine srl ?_) | (refine isl_alloc ?_; refine all' ?_) | (refine isl_box ?_; refine bxl ?_) | refine dr Try.follows ?_)
  refine go_loop (G := Tr × Sm × AR × Int) [8, 2] (fun ⟨t', _, _, x'⟩ => [.int .u32 (t'.root : Int), .int .i64 x']) [(0, ptr p), (6, ptr w.heap.size), (7, ptr (w.heap.size + 1))]
    (fun ⟨t', s, B, x'⟩ w' => InA B t' ∧ InE t'.ents ∧ s.ok ∧ s.add (tk t'.ents x') = tk t.ents x ∧ s.n + t'.sz ≤ t.sz ∧ t'.ht ≤ t.ht ∧ InV x' ∧ Rds A B (2 * (t.ht - t'.ht)) ∧ ArP w' lo p q B ∧ Fr (fun b => b = p) w w' ∧
      At w' w.heap.size [.int .i64 0, .int .i64 0, .int .i64 0, .int .i64 0] 23 ∧ At w' (w.heap.size + 1) s.cells 23 ∧ w.heap.size + 2 ≤ w'.heap.size)
    (fun g => g.1.sz) (t, Sm.zero, A, x) rfl ⟨rfl, rfl, rfl, trivial⟩
    ⟨hi, he, Sm.zero_ok, Sm.zero_add _, by simp [Sm.zero], Nat.le_refl _, hx, Rds.refl _ _, ha.ext (by (repeat (first | exact Fr.refl _ _ | assumption | apply Fr.drewN | apply Fr.alloc | (apply Fr.transF; assumption) | (refine Fr.setRow ?_ _ (by first | exact Or.inr (by (first | omega | (simp; done) | (simp; omega))) | (exact Or.inl (by first | assumption | (simp; done)))))))), by (repeat (first | exact Fr.refl _ _ | assumption | apply Fr.drewN | apply Fr.alloc | (apply Fr.transF; assumption) | (refine Fr.setRow ?_ _ (by first | exact Or.inr (by (first | omega | (simp; done) | (simp; omega))) | (exact Or.inl (by first | assumption | (simp; done))))))), by (repeat (first | assumption | (refine At.new' (by (first | omega | (simp; done) | (simp; omega))) _ _) | apply At.alloc | apply At.drewN | apply At.setRow | (apply At.setRow_neF; first | assumption | (apply Ne.symm; assumption) | omega) | (apply At.extF; assumption))), by show At _ _ [.int .i64 0, .int .i64 0, .int .i64 0, .int .i64 0] _; (repeat (first | assumption | (refine At.new' (by (first | omega | (simp; done) | (simp; omega))) _ _) | apply At.alloc | apply At.drewN | apply At.setRow | (apply At.setRow_neF; first | assumption | (apply Ne.symm; assumption) | omega) | (apply At.extF; assumption))), by simp⟩ ?_
  clear hx
  rintro ⟨t', s, B, x'⟩ w1 ⟨hi1, he1, hs1, hsum, hn1, hht, hx, hB, ha1, hF1, hat0, hat1, hl1⟩
  unfold Sm.cells at hat1
  unfold InV at hx
  cases t' with
  | nil =>
    repeat (first | refine sp ?_ | (refine is_load ?_; refine ld ?_) | (refine is_store ?_; refine sr ?_) | (refine is_alloc ?_; refine al ?_) | (refine is_box ?_; refine bx ?_) | (refine isl_load ?_; refine ldl ?_) | (refine isl_store ?_; refine srl ?_) | (refine isl_alloc ?_; refine all' ?_) | (refine isl_box ?_; refine bxl ?_))
    refine go_ret1 rfl ⟨_, rfl, Ld.run (ld_part (by (repeat (first | assumption | (refine At.new' (by (first | omega | (simp; done) | (simp; omega))) _ _) | apply At.alloc | apply At.drewN | apply At.setRow | (apply At.setRow_neF; first | assumption | (apply Ne.symm; assumption) | omega) | (apply At.extF; assumption)))) rfl rfl)⟩ ⟨_, rfl, RdR.fin ?_ ha ha1 (hB.mono (by omega)) hF1 (by (repeat (first | exact Fr.refl _ _ | assumption | apply Fr.drewN | apply Fr.alloc | (apply Fr.transF; assumption) | (refine Fr.setRow ?_ _ (by first | exact Or.inr (by (first | omega | (simp; done) | (simp; omega))) | (exact Or.inl (by first | assumption | (simp; done))))))))⟩
    rw [← hsum, show tk (Tr.nil).ents x' = Sm.zero by simp [tk, Tr.ents]; rfl, Sm.add_zero hs1]; rfl
  | nd i l k v r =>
    have h0 : i ≠ 0 := by have := hi1.1; omega
    refine go_as 8 (u' := .int .u32 (i : Int)) rfl rfl ?_
    obtain ⟨hel, her, hkk, hvv⟩ := he1.nd
    have hsz : (Tr.nd i l k v r).sz = l.sz + 1 + r.sz := rfl
    have hhd : (Tr.nd i l k v r).ht = 1 + max l.ht r.ht := rfl
    have hen : (Tr.nd i l k v r).ents = l.ents ++ (k, v) :: r.ents := rfl
    obtain ⟨hri, hrl, hrr⟩ := hi1.roots ha1.wf
    by_cases hx0 : x' ≤ 0
    · repeat (first | refine sp ?_ | (refine is_load ?_; refine ld ?_) | (refine is_store ?_; refine sr ?_) | (refine is_alloc ?_; refine al ?_) | (refine is_box ?_; refine bx ?_) | (refine isl_load ?_; refine ldl ?_) | (refine isl_store ?_; refine srl ?_) | (refine isl_alloc ?_; refine all' ?_) | (refine isl_box ?_; refine bxl ?_))
      refine go_ret1 rfl ⟨_, rfl, Ld.run (ld_part (by (repeat (first | assumption | (refine At.new' (by (first | omega | (simp; done) | (simp; omega))) _ _) | apply At.alloc | apply At.drewN | apply At.setRow | (apply At.setRow_neF; first | assumption | (apply Ne.symm; assumption) | omega) | (apply At.extF; assumption)))) rfl rfl)⟩ ⟨_, rfl, RdR.fin ?_ ha ha1 (hB.mono (by omega)) hF1 (by (repeat (first | exact Fr.refl _ _ | assumption | apply Fr.drewN | apply Fr.alloc | (apply Fr.transF; assumption) | (refine Fr.setRow ?_ _ (by first | exact Or.inr (by (first | omega | (simp; done) | (simp; omega))) | (exact Or.inl (by first | assumption | (simp; done))))))))⟩
      rw [← hsum, show tk (Tr.nd i l k v r).ents x' = Sm.zero by unfold tk; rw [show x'.toNat = 0 by omega]; rfl, Sm.add_zero hs1]; rfl
    have hsn := hs1.n0
    repeat (first | refine sp ?_ | (refine is_load ?_; refine ld ?_) | (refine is_store ?_; refine sr ?_) | (refine is_alloc ?_; refine al ?_) | (refine is_box ?_; refine bx ?_) | (refine isl_load ?_; refine ldl ?_) | (refine isl_store ?_; refine srl ?_) | (refine isl_alloc ?_; refine all' ?_) | (refine isl_box ?_; refine bxl ?_) | refine dr Try.follows ?_)
    refine go_call rfl rfl (p_Node _ lo p q B i ha1 hri) ?_
    rintro _ w2 ⟨rfl, ha2, hf2⟩
    rw [show B.used i = true from hi1.2.1, hi1.nodeL he1 (by omega)]
    generalize smy (Tr.nd i l k v r).vals = S
    have hat0' := hat0.fr hf2 (by omega)
    have hat1' := hat1.fr hf2 (by omega)
    have hl2 := hf2.size
    have hi2 := hi1.read i
    repeat (first | refine sp ?_ | (refine is_load ?_; refine ld ?_) | (refine is_store ?_; refine sr ?_) | (refine is_alloc ?_; refine al ?_) | (refine is_box ?_; refine bx ?_) | (refine isl_load ?_; refine ldl ?_) | (refine isl_store ?_; refine srl ?_) | (refine isl_alloc ?_; refine all' ?_) | (refine isl_box ?_; refine bxl ?_))
    refine go_name (F := fun w3 => At w3 w2.heap.size [.int .i64 k, .int .i64 v, .int .u32 (l.root : Int), .int .u32 (r.root : Int), .int .i64 S.n, .int .i64 S.s, .int .i64 S.mn, .int .i64 S.mx] 64 ∧ At w3 w.heap.size [.int .i64 0, .int .i64 0, .int .i64 0, .int .i64 0] 23 ∧ At w3 (w.heap.size + 1) [.int .i64 s.n, .int .i64 s.s, .int .i64 s.mn, .int .i64 s.mx] 23 ∧ ArP w3 lo p q (B.read i) ∧ Fr (fun b => b = p) w w3 ∧ w3.heap.size = w2.heap.size + 1) ⟨by (repeat (first | assumption | (refine At.new' (by (first | omega | (simp; done) | (simp; omega))) _ _) | apply At.alloc | apply At.drewN | apply At.setRow | (apply At.setRow_neF; first | assumption | (apply Ne.symm; assumption) | omega) | (apply At.extF; assumption))), by (repeat (first | assumption | (refine At.new' (by (first | omega | (simp; done) | (simp; omega))) _ _) | apply At.alloc | apply At.drewN | apply At.setRow | (apply At.setRow_neF; first | assumption | (apply Ne.symm; assumption) | omega) | (apply At.extF; assumption))), by (repeat (first | assumption | (refine At.new' (by (first | omega | (simp; done) | (simp; omega))) _ _) | apply At.alloc | apply At.drewN | apply At.setRow | (apply At.setRow_neF; first | assumption | (apply Ne.symm; assumption) | omega) | (apply At.extF; assumption))), ha2.ext (by (repeat (first | exact Fr.refl _ _ | assumption | apply Fr.drewN | apply Fr.alloc | (apply Fr.transF; assumption) | (refine Fr.setRow ?_ _ (by first | exact Or.inr (by (first | omega | (simp; done) | (simp; omega))) | (exact Or.inl (by first | assumption | (simp; done)))))))), (hF1.trans hf2).trans (by (repeat (first | exact Fr.refl _ _ | assumption | apply Fr.drewN | apply Fr.alloc | (apply Fr.transF; assumption) | (refine Fr.setRow ?_ _ (by first | exact Or.inr (by (first | omega | (simp; done) | (simp; omega))) | (exact Or.inl (by first | assumption | (simp; done)))))))), by simp⟩ ?_
    rintro w3 ⟨hat2, hat3, hat4, ha3, hF3, hl3⟩
    refine go_call rfl rfl (c_tree w3 lo p q (B.read i) l ha3 hi2.2.2.2.1 hel (by omega) hrl) ?_
    rintro _ w4 ⟨rfl, B4, ha4, hB4, hf4⟩
    have hn2 : (smy l.vals).n = (l.sz : Int) := by rw [smy_n, ← l.len]; simp [Tr.vals]
    have hok2 : (smy l.vals).ok := smy_ok (InE.vals hel)
    have hF4 := hF3.trans hf4
    have hl4 := hf4.size
    have hat5 := hat2.fr hf4 (by omega)
    have hat6 := hat3.fr hf4 (by omega)
    have hat7 := hat4.fr hf4 (by omega)
    have hlen := l.len
    obtain ⟨L, hL⟩ : ∃ L, smy l.vals = L := ⟨_, rfl⟩
    rw [hL] at hn2 hok2 ⊢
    unfold Sm.cells
    rw [hn2]
    by_cases hc : x' ≤ l.sz
    · repeat (first | refine sp ?_ | (refine is_load ?_; refine ld ?_) | (refine is_store ?_; refine sr ?_) | (refine is_alloc ?_; refine al ?_) | (refine is_box ?_; refine bx ?_) | (refine isl_load ?_; refine ldl ?_) | (refine isl_store ?_; refine srl ?_) | (refine isl_alloc ?_; refine all' ?_) | (refine isl_box ?_; refine bxl ?_) | refine dr Try.follows ?_)
      refine go_stop (G := Tr × Sm × AR × Int) (l, s, B4, x') rfl ⟨rfl, rfl, rfl, trivial⟩ ⟨hB4.inA hi2.2.2.2.1, hel, hs1, ?_, by omega, by omega, hx, ((hB.trans (Rds.read B i)).trans hB4).mono (by omega), ha4.ext (by (repeat (first | exact Fr.refl _ _ | assumption | apply Fr.drewN | apply Fr.alloc | (apply Fr.transF; assumption) | (refine Fr.setRow ?_ _ (by first | exact Or.inr (by (first | omega | (simp; done) | (simp; omega))) | (exact Or.inl (by first | assumption | (simp; done)))))))), hF4.trans (by (repeat (first | exact Fr.refl _ _ | assumption | apply Fr.drewN | apply Fr.alloc | (apply Fr.transF; assumption) | (refine Fr.setRow ?_ _ (by first | exact Or.inr (by (first | omega | (simp; done) | (simp; omega))) | (exact Or.inl (by first | assumption | (simp; done)))))))), by (repeat (first | assumption | (refine At.new' (by (first | omega | (simp; done) | (simp; omega))) _ _) | apply At.alloc | apply At.drewN | apply At.setRow | (apply At.setRow_neF; first | assumption | (apply Ne.symm; assumption) | omega) | (apply At.extF; assumption))), by (repeat (first | assumption | (refine At.new' (by (first | omega | (simp; done) | (simp; omega))) _ _) | apply At.alloc | apply At.drewN | apply At.setRow | (apply At.setRow_neF; first | assumption | (apply Ne.symm; assumption) | omega) | (apply At.extF; assumption))), by simp; omega⟩ (by show l.sz < l.sz + 1 + r.sz; omega)
      rw [← hsum, hen, tk_left (by omega)]
    · repeat (first | refine sp ?_ | (refine is_load ?_; refine ld ?_) | (refine is_store ?_; refine sr ?_) | (refine is_alloc ?_; refine al ?_) | (refine is_box ?_; refine bx ?_) | (refine isl_load ?_; refine ldl ?_) | (refine isl_store ?_; refine srl ?_) | (refine isl_alloc ?_; refine all' ?_) | (refine isl_box ?_; refine bxl ?_))
      refine go_name (F := fun w5 => At w5 w4.heap.size [.int .i64 l.sz, .int .i64 L.s, .int .i64 L.mn, .int .i64 L.mx] 23 ∧ At w5 w2.heap.size [.int .i64 k, .int .i64 v, .int .u32 (l.root : Int), .int .u32 (r.root : Int), .int .i64 S.n, .int .i64 S.s, .int .i64 S.mn, .int .i64 S.mx] 64 ∧ At w5 w.heap.size [.int .i64 0, .int .i64 0, .int .i64 0, .int .i64 0] 23 ∧ At w5 (w.heap.size + 1) [.int .i64 s.n, .int .i64 s.s, .int .i64 s.mn, .int .i64 s.mx] 23 ∧ ArP w5 lo p q B4 ∧ Fr (fun b => b = p) w w5 ∧ w5.heap.size = w4.heap.size + 1) ⟨by (repeat (first | assumption | (refine At.new' (by (first | omega | (simp; done) | (simp; omega))) _ _) | apply At.alloc | apply At.drewN | apply At.setRow | (apply At.setRow_neF; first | assumption | (apply Ne.symm; assumption) | omega) | (apply At.extF; assumption))), by (repeat (first | assumption | (refine At.new' (by (first | omega | (simp; done) | (simp; omega))) _ _) | apply At.alloc | apply At.drewN | apply At.setRow | (apply At.setRow_neF; first | assumption | (apply Ne.symm; assumption) | omega) | (apply At.extF; assumption))), by (repeat (first | assumption | (refine At.new' (by (first | omega | (simp; done) | (simp; omega))) _ _) | apply At.alloc | apply At.drewN | apply At.setRow | (apply At.setRow_neF; first | assumption | (apply Ne.symm; assumption) | omega) | (apply At.extF; assumption))), by (repeat (first | assumption | (refine At.new' (by (first | omega | (simp; done) | (simp; omega))) _ _) | apply At.alloc | apply At.drewN | apply At.setRow | (apply At.setRow_neF; first | assumption | (apply Ne.symm; assumption) | omega) | (apply At.extF; assumption))), ha4.ext (by (repeat (first | exact Fr.refl _ _ | assumption | apply Fr.drewN | apply Fr.alloc | (apply Fr.transF; assumption) | (refine Fr.setRow ?_ _ (by first | exact Or.inr (by (first | omega | (simp; done) | (simp; omega))) | (exact Or.inl (by first | assumption | (simp; done)))))))), hF4.trans (by (repeat (first | exact Fr.refl _ _ | assumption | apply Fr.drewN | apply Fr.alloc | (apply Fr.transF; assumption) | (refine Fr.setRow ?_ _ (by first | exact Or.inr (by (first | omega | (simp; done) | (simp; omega))) | (exact Or.inl (by first | assumption | (simp; done)))))))), by simp⟩ ?_
      rintro w5 ⟨hb1, hb2, hb3, hb4, ha5, hF5, hl5⟩
      refine go_drawE (Fr (fun b => b = p) w5) 1 Try.follows (by kernel_rfl) (by kernel_rfl) (by kernel_rfl) ((Fr.refl _ _).drewN 1) ?_
      repeat (first | refine sp ?_ | (refine is_load ?_; refine ld ?_) | (refine is_store ?_; refine sr ?_) | (refine is_alloc ?_; refine al ?_) | (refine is_box ?_; refine bx ?_) | (refine isl_load ?_; refine ldl ?_) | (refine isl_store ?_; refine srl ?_) | (refine isl_alloc ?_; refine all' ?_) | (refine isl_box ?_; refine bxl ?_))
      refine gol_call rfl rfl (c_one v _) ?_
      rintro _ w6 ⟨rfl, hf6⟩
      have g6 : Fr (fun b => b = p) w5 w6 := Fr.trans ((Fr.refl _ _).drewN 1) (Fr.of_ext hf6)
      refine ⟨g6, ?_⟩
      have hLc : [Value.int .i64 (l.sz : Int), .int .i64 L.s, .int .i64 L.mn, .int .i64 L.mx] = L.cells := by unfold Sm.cells; rw [hn2]
      repeat (first | refine sp ?_ | (refine is_load ?_; refine ld ?_) | (refine is_store ?_; refine sr ?_) | (refine is_alloc ?_; refine al ?_) | (refine is_box ?_; refine bx ?_) | (refine isl_load ?_; refine ldl ?_) | (refine isl_store ?_; refine srl ?_) | (refine isl_alloc ?_; refine all' ?_) | (refine isl_box ?_; refine bxl ?_))
      refine gol_call rfl rfl (by rw [hLc]; exact c_SAdd L (Sm.one v) w6 (by omega) (by simp [Sm.one])) ?_
      rintro _ w7 ⟨rfl, hf7⟩
      have g7 := g6.trans (Fr.of_ext hf7)
      refine ⟨g7, ?_⟩
      have n3 := @Sm.add_n L (Sm.one v)
      have n4 : (Sm.one v).n = 1 := rfl
      have hok3 := Sm.add_ok hok2 (Sm.one_ok hvv)
      repeat (first | refine sp ?_ | (refine is_load ?_; refine ld ?_) | (refine is_store ?_; refine sr ?_) | (refine is_alloc ?_; refine al ?_) | (refine is_box ?_; refine bx ?_) | (refine isl_load ?_; refine ldl ?_) | (refine isl_store ?_; refine srl ?_) | (refine isl_alloc ?_; refine all' ?_) | (refine isl_box ?_; refine bxl ?_))
      refine gol_call rfl rfl (c_SAdd s (L.add (Sm.one v)) w7 (by omega) (by omega)) ?_
      rintro _ w8 ⟨rfl, hf8⟩
      have g8 := g7.trans (Fr.of_ext hf8)
      refine ⟨g8, ?_⟩
      have n5 := @Sm.add_n s (L.add (Sm.one v))
      have hok4 := Sm.add_ok hs1 hok3
      have hass : (s.add (L.add (Sm.one v))).add (tk r.ents (x' - (l.sz + 1))) = tk t.ents x := by
        have hr1 := tk_right (k := k) hel her hvv (i := x') (by omega)
        rw [show smy (l.ents.map (·.2)) = L from hL, hlen] at hr1
        rw [← hsum, hen, hr1, Sm.add_assoc hs1 hok3]
        exact InE.smy_ok (her.take _)
      generalize s.add (L.add (Sm.one v)) = z at *
      have hc1 := hb1.fr g8 (by omega)
      have hc2 := hb2.fr g8 (by omega)
      have hc3 := hb3.fr g8 (by omega)
      have hc4 := hb4.fr g8 (by omega)
      have hl8 := g8.size
      unfold Sm.cells
      repeat (first | refine sp ?_ | (refine is_load ?_; refine ld ?_) | (refine is_store ?_; refine sr ?_) | (refine is_alloc ?_; refine al ?_) | (refine is_box ?_; refine bx ?_) | (refine isl_load ?_; refine ldl ?_) | (refine isl_store ?_; refine srl ?_) | (refine isl_alloc ?_; refine all' ?_) | (refine isl_box ?_; refine bxl ?_))
      refine go_stop (G := Tr × Sm × AR × Int) (r, z, B4, x' - (l.sz + 1)) rfl ⟨rfl, rfl, rfl, trivial⟩ ⟨hB4.inA hi2.2.2.2.2, her, hok4, hass, by omega, by omega, by unfold InV; omega, ((hB.trans (Rds.read B i)).trans hB4).mono (by omega), ((((ha5.ext (Fr.drewN (Fr.refl _ _) 1)).ext hf6).ext hf7).ext hf8).fr (S := fun b => w.heap.size ≤ b) (by (repeat (first | exact Fr.refl _ _ | assumption | apply Fr.drewN | apply Fr.alloc | (apply Fr.transF; assumption) | (refine Fr.setRow ?_ _ (by first | exact Or.inr (by (first | omega | (simp; done) | (simp; omega))) | (exact Or.inl (by first | assumption | (simp; done)))))))) (fun b hb e => by have := ha.lt b hb; omega), ?_, by (repeat (first | assumption | (refine At.new' (by (first | omega | (simp; done) | (simp; omega))) _ _) | apply At.alloc | apply At.drewN | apply At.setRow | (apply At.setRow_neF; first | assumption | (apply Ne.symm; assumption) | omega) | (apply At.extF; assumption))), by (repeat (first | assumption | (refine At.new' (by (first | omega | (simp; done) | (simp; omega))) _ _) | apply At.alloc | apply At.drewN | apply At.setRow | (apply At.setRow_neF; first | assumption | (apply Ne.symm; assumption) | omega) | (apply At.extF; assumption))), by simp; omega⟩ (by show r.sz < l.sz + 1 + r.sz; omega)
      exact (hF5.trans g8).trans' (S' := fun b => w.heap.size ≤ b) (by (repeat (first | exact Fr.refl _ _ | assumption | apply Fr.drewN | apply Fr.alloc | (apply Fr.transF; assumption) | (refine Fr.setRow ?_ _ (by first | exact Or.inr (by (first | omega | (simp; done) | (simp; omega))) | (exact Or.inl (by first | assumption | (simp; done)))))))) fun b hb e => by omega

end Go.Proofs.Ytklgmomhdlhajaa
