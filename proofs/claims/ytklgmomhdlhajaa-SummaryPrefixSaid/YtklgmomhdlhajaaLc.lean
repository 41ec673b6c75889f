/-
  The laws of chapter 11 that count reads.
-/
import Derived.Test.YtklgmomhdlhajaaLb
import Derived.Test.YtklgmomhdlhajaaDm
set_option linter.unusedVariables false
namespace Go.Proofs.Ytklgmomhdlhajaa
open Go.Vc

theorem TreeAt.hgt {w0 w : World} {lo p : Nat} {q : AP} {B : AR} {t : Tr} (g : TreeAt w0 w lo p q B t) {n : Nat} (hn : t.sz = n) : ∃ m : Nat, maxHeight (n : Int) = m ∧ m < 80 ∧ t.ht ≤ m := by
  have hs := g.sz
  obtain ⟨m, e, h1, h2, h3⟩ := maxHeight_spec (n := (n : Int)) (by omega) (by omega)
  refine ⟨m, e, h1, ?_⟩
  have h4 := Tr.wt_le g.bal
  have : t.ht < m + 1 := wt_lt (by omega)
  omega

theorem Rds.le' {A B : AR} {n k : Nat} (h : Rds A B n) (h1 : A.reads ≤ k) (h2 : k + n ≤ 1000000000) : A.reads ≤ B.reads ∧ B.reads ≤ A.reads + n := h.le (by omega)

set_option maxHeartbeats 2000000 in
theorem c_LawPrefix (lv : Value) (l : List (Int × Int)) (tilt x : Int) (w : World) (h : Rd w 0 lv entC l) (he : InE l) (hlen : l.length ≤ 9223372036854775807) (ht : 0 ≤ tilt ∧ tilt ≤ 18446744073709551615) (hx : InV x) :
    Calls Try.prog 4 [lv, .int .u64 tilt, .int .i64 x].toArray w (Ret fun v w' => v = .bool true ∧ Ext w w') := by
  refine calls_go Try.func4 rfl Try.ntmps4 (Nat.le_of_ble_eq_true rfl) ?_
  repeat (first | refine sp ?_ | (refine is_load ?_; refine ld ?_) | (refine is_store ?_; refine sr ?_) | (refine is_alloc ?_; refine al ?_) | (refine is_box ?_; refine bx ?_) | (refine isl_load ?_; refine ldl ?_) | (refine isl_store ?_; refine srl ?_) | (refine isl_alloc ?_; refine all' ?_) | (refine isl_box ?_; refine bxl ?_) | refine dr Try.follows ?_)
  refine go_call rfl rfl (c_List w lv l 120 h.up he hlen (by omega)) ?_
  rintro v1 w1 ⟨a, ha, hok, hx1⟩
  obtain ⟨sa, cap, rfl, hlc, _, _⟩ := ha
  have ha : RdU w1 w1.heap.size (.slice sa a.length cap) entC a := ⟨sa, cap, rfl, hlc, by assumption, by assumption⟩
  repeat (first | refine sp ?_ | (refine is_load ?_; refine ld ?_) | (refine is_store ?_; refine sr ?_) | (refine is_alloc ?_; refine al ?_) | (refine is_box ?_; refine bx ?_) | (refine isl_load ?_; refine ldl ?_) | (refine isl_store ?_; refine srl ?_) | (refine isl_alloc ?_; refine all' ?_) | (refine isl_box ?_; refine bxl ?_) | refine dr Try.follows ?_)
  refine go_call rfl rfl (c_GrowT w w1 a 120 _ tilt 1 ha hok (by omega) (by omega) (by omega) ht hx1) ?_
  rintro _ w2 ⟨lo, p, q, B, t, rfl, g, hen, hsz, hre, hcp, hpb, hx2⟩
  repeat (first | refine sp ?_ | (refine is_load ?_; refine ld ?_) | (refine is_store ?_; refine sr ?_) | (refine is_alloc ?_; refine al ?_) | (refine is_box ?_; refine bx ?_) | (refine isl_load ?_; refine ldl ?_) | (refine isl_store ?_; refine srl ?_) | (refine isl_alloc ?_; refine all' ?_) | (refine isl_box ?_; refine bxl ?_) | refine dr Try.follows ?_)
  refine go_call rfl rfl (c_awake11 w2) ?_
  rintro _ w3 ⟨rfl, hx3⟩
  have g3 := g.step hx3
  have hal := hok.len
  have ha3 := (ha.ext hx2).ext hx3
  obtain ⟨m, hmh, hm80, hht⟩ := g3.hgt hsz
  repeat (first | refine sp ?_ | (refine is_load ?_; refine ld ?_) | (refine is_store ?_; refine sr ?_) | (refine is_alloc ?_; refine al ?_) | (refine is_box ?_; refine bx ?_) | (refine isl_load ?_; refine ldl ?_) | (refine isl_store ?_; refine srl ?_) | (refine isl_alloc ?_; refine all' ?_) | (refine isl_box ?_; refine bxl ?_) | refine dr Try.follows ?_)
  refine go_loop (G := Nat × Int × AR) [11, 2] (fun ⟨k, y, _⟩ => [.int .i64 (k : Int), .int .i64 y]) [(7, .slice sa a.length cap), (8, ptr p), (9, .int .u32 (t.root : Int))]
    (fun ⟨k, y, B⟩ w' => k ≤ 2 ∧ InV y ∧ TreeAt w w' lo p q B t ∧ RdU w' w1.heap.size (.slice sa a.length cap) entC a ∧ B.reads ≤ 1000 * k ∧ w1.heap.size ≤ w'.heap.size) (fun g => 2 - g.1) (0, x, B) rfl ⟨rfl, rfl, rfl, trivial⟩ ⟨by omega, hx, g3, ha3, by omega, by have := hx2.size; have := hx3.size; omega⟩ ?_
  clear ha3 g3 g hx3
  rintro ⟨k, y, B⟩ w3 ⟨hk, hy, g3, ha3, hre, hl3⟩
  unfold InV at hy
  by_cases hlt : k < 2
  · repeat (first | refine sp ?_ | (refine is_load ?_; refine ld ?_) | (refine is_store ?_; refine sr ?_) | (refine is_alloc ?_; refine al ?_) | (refine is_box ?_; refine bx ?_) | (refine isl_load ?_; refine ldl ?_) | (refine isl_store ?_; refine srl ?_) | (refine isl_alloc ?_; refine all' ?_) | (refine isl_box ?_; refine bxl ?_) | refine dr Try.follows ?_)
    refine go_call rfl rfl (p_Reads w3 lo p q B g3.ar) ?_
    rintro _ w3 ⟨rfl, rfl⟩
    repeat (first | refine sp ?_ | (refine is_load ?_; refine ld ?_) | (refine is_store ?_; refine sr ?_) | (refine is_alloc ?_; refine al ?_) | (refine is_box ?_; refine bx ?_) | (refine isl_load ?_; refine ldl ?_) | (refine isl_store ?_; refine srl ?_) | (refine isl_alloc ?_; refine all' ?_) | (refine isl_box ?_; refine bxl ?_) | refine dr Try.follows ?_)
    refine go_call rfl rfl (c_Prefix w3 _ p q B t y g3.ar g3.inA g3.ine g3.sz6 hy) ?_
    rintro _ w4 ⟨rfl, hR⟩
    obtain ⟨B4, g4, hB4, hf4⟩ := g3.rd hR
    have hrd := hB4.le' (k := 3000) (by omega) (by omega)
    have ha4 := RdU.rd ha3 hf4 hpb
    have hl4 := hf4.size
    repeat (first | refine sp ?_ | (refine is_load ?_; refine ld ?_) | (refine is_store ?_; refine sr ?_) | (refine is_alloc ?_; refine al ?_) | (refine is_box ?_; refine bx ?_) | (refine isl_load ?_; refine ldl ?_) | (refine isl_store ?_; refine srl ?_) | (refine isl_alloc ?_; refine all' ?_) | (refine isl_box ?_; refine bxl ?_) | refine dr Try.follows ?_)
    refine go_call rfl rfl (c_Head w4 w1.heap.size _ a y ha4 (by omega) (by omega)) ?_
    rintro v5 w5 ⟨ho5, hx5⟩
    have g5 := g4.step hx5
    have hhl : (a.take y.toNat).length ≤ 120 := by rw [List.length_take]; omega
    have hhe : InE (a.take y.toNat) := hok.ine.take _
    have hr5 := ho5.rd.up
    obtain ⟨sv5, cv5, rfl, _, _⟩ := ho5.slice
    repeat (first | refine sp ?_ | (refine is_load ?_; refine ld ?_) | (refine is_store ?_; refine sr ?_) | (refine is_alloc ?_; refine al ?_) | (refine is_box ?_; refine bx ?_) | (refine isl_load ?_; refine ldl ?_) | (refine isl_store ?_; refine srl ?_) | (refine isl_alloc ?_; refine all' ?_) | (refine isl_box ?_; refine bxl ?_) | refine dr Try.follows ?_)
    refine go_call rfl rfl (c_Summarize w5 w5.heap.size _ (a.take y.toNat) hr5 (Nat.le_refl _) hhe (by omega)) ?_
    rintro _ w6 ⟨rfl, hx6⟩
    have g6 := g5.step hx6
    have htk : tk t.ents y = smy ((a.take y.toNat).map (·.2)) := by unfold tk; rw [hen]
    rw [htk]
    generalize smy ((a.take y.toNat).map (·.2)) = s
    unfold Sm.cells
    repeat (first | refine sp ?_ | (refine is_load ?_; refine ld ?_) | (refine is_store ?_; refine sr ?_) | (refine is_alloc ?_; refine al ?_) | (refine is_box ?_; refine bx ?_) | (refine isl_load ?_; refine ldl ?_) | (refine isl_store ?_; refine srl ?_) | (refine isl_alloc ?_; refine all' ?_) | (refine isl_box ?_; refine bxl ?_) | refine dr Try.follows ?_)
    refine go_as 42 (u' := .bool false) rfl (by rw [sm_eq]; rfl) ?_
    refine go_as 43 (u' := .bool false) rfl (by rw [sm_eq]; rfl) ?_
    repeat (first | refine sp ?_ | (refine is_load ?_; refine ld ?_) | (refine is_store ?_; refine sr ?_) | (refine is_alloc ?_; refine al ?_) | (refine is_box ?_; refine bx ?_) | (refine isl_load ?_; refine ldl ?_) | (refine isl_store ?_; refine srl ?_) | (refine isl_alloc ?_; refine all' ?_) | (refine isl_box ?_; refine bxl ?_) | refine dr Try.follows ?_)
    refine go_call rfl rfl (c_Height _ w6) ?_
    rintro _ w7 ⟨rfl, hx7⟩
    have g7 := g6.step hx7
    rw [hmh]
    repeat (first | refine sp ?_ | (refine is_load ?_; refine ld ?_) | (refine is_store ?_; refine sr ?_) | (refine is_alloc ?_; refine al ?_) | (refine is_box ?_; refine bx ?_) | (refine isl_load ?_; refine ldl ?_) | (refine isl_store ?_; refine srl ?_) | (refine isl_alloc ?_; refine all' ?_) | (refine isl_box ?_; refine bxl ?_) | refine dr Try.follows ?_)
    refine go_call rfl rfl (c_Within w7 _ p q B4 B.reads _ g7.ar hrd.1 (by omega) (by omega) (by omega)) ?_
    rintro _ w7 ⟨rfl, rfl⟩
    have m1 := Int.emod_nonneg y (show (a.length : Int) + 3 ≠ 0 by omega)
    have m2 := Int.emod_lt_of_pos y (show (0 : Int) < a.length + 3 by omega)
    repeat (first | refine sp ?_ | (refine is_load ?_; refine ld ?_) | (refine is_store ?_; refine sr ?_) | (refine is_alloc ?_; refine al ?_) | (refine is_box ?_; refine bx ?_) | (refine isl_load ?_; refine ldl ?_) | (refine isl_store ?_; refine srl ?_) | (refine isl_alloc ?_; refine all' ?_) | (refine isl_box ?_; refine bxl ?_) | refine dr Try.follows ?_)
    refine go_call rfl rfl (c_Mod y (a.length + 3) w7 hy (by omega)) ?_
    rintro _ w7 ⟨rfl, rfl⟩
    repeat (first | refine sp ?_ | (refine is_load ?_; refine ld ?_) | (refine is_store ?_; refine sr ?_) | (refine is_alloc ?_; refine al ?_) | (refine is_box ?_; refine bx ?_) | (refine isl_load ?_; refine ldl ?_) | (refine isl_store ?_; refine srl ?_) | (refine isl_alloc ?_; refine all' ?_) | (refine isl_box ?_; refine bxl ?_) | refine dr Try.follows ?_)
    refine go_stop (G := Nat × Int × AR) (k + 1, y % (a.length + 3) - 1, B4) rfl ⟨rfl, rfl, rfl, trivial⟩ ⟨hlt, by unfold InV; omega, g7, ((ha4.ext hx5).ext hx6).ext hx7, by omega, by have := hx5.size; have := hx6.size; have := hx7.size; omega⟩ (by show 2 - (k + 1) < 2 - k; omega)
  · repeat (first | refine sp ?_ | (refine is_load ?_; refine ld ?_) | (refine is_store ?_; refine sr ?_) | (refine is_alloc ?_; refine al ?_) | (refine is_box ?_; refine bx ?_) | (refine isl_load ?_; refine ldl ?_) | (refine isl_store ?_; refine srl ?_) | (refine isl_alloc ?_; refine all' ?_) | (refine isl_box ?_; refine bxl ?_) | refine dr Try.follows ?_)
    exact go_ret1 rfl rfl ⟨_, rfl, rfl, g3.ext⟩

theorem Rds.dump {A B : AR} {n : Nat} (h : Rds A B n) : B.dump = A.dump := by rw [h.eq]; rfl

set_option maxHeartbeats 4000000 in
theorem c_LawRange (lv : Value) (l : List (Int × Int)) (tilt x y ii jj : Int) (w : World) (h : Rd w 0 lv entC l) (he : InE l) (hlen : l.length ≤ 9223372036854775807) (ht : 0 ≤ tilt ∧ tilt ≤ 18446744073709551615) (hx : InV x) (hy : InV y) (hii : InV ii) (hjj : InV jj) :
    Calls Try.prog 8 [lv, .int .u64 tilt, .int .i64 x, .int .i64 y, .int .i64 ii, .int .i64 jj].toArray w (Ret fun v w' => v = .bool true ∧ Ext w w') := by
  unfold InV at hii hjj
  refine calls_go Try.func8 rfl Try.ntmps8 (Nat.le_of_ble_eq_true rfl) ?_
  repeat (first | refine sp ?_ | (refine is_load ?_; refine ld ?_) | (refine is_store ?_; refine sr ?_) | (refine is_alloc ?_; refine al ?_) | (refine is_box ?_; refine bx ?_) | (refine isl_load ?_; refine ldl ?_) | (refine isl_store ?_; refine srl ?_) | (refine isl_alloc ?_; refine all' ?_) | (refine isl_box ?_; refine bxl ?_) | refine dr Try.follows ?_)
  refine go_call rfl rfl (c_List w lv l 120 h.up he hlen (by omega)) ?_
  rintro v1 w1 ⟨a, ha, hok, hx1⟩
  obtain ⟨sa, cap, rfl, hlc, _, _⟩ := ha
  have ha : RdU w1 w1.heap.size (.slice sa a.length cap) entC a := ⟨sa, cap, rfl, hlc, by assumption, by assumption⟩
  repeat (first | refine sp ?_ | (refine is_load ?_; refine ld ?_) | (refine is_store ?_; refine sr ?_) | (refine is_alloc ?_; refine al ?_) | (refine is_box ?_; refine bx ?_) | (refine isl_load ?_; refine ldl ?_) | (refine isl_store ?_; refine srl ?_) | (refine isl_alloc ?_; refine all' ?_) | (refine isl_box ?_; refine bxl ?_) | refine dr Try.follows ?_)
  refine go_call rfl rfl (c_GrowT w w1 a 120 _ tilt 1 ha hok (by omega) (by omega) (by omega) ht hx1) ?_
  rintro _ w2 ⟨lo, p, q, B, t, rfl, g, hen, hsz, hre, hcp, hpb, hx2⟩
  repeat (first | refine sp ?_ | (refine is_load ?_; refine ld ?_) | (refine is_store ?_; refine sr ?_) | (refine is_alloc ?_; refine al ?_) | (refine is_box ?_; refine bx ?_) | (refine isl_load ?_; refine ldl ?_) | (refine isl_store ?_; refine srl ?_) | (refine isl_alloc ?_; refine all' ?_) | (refine isl_box ?_; refine bxl ?_) | refine dr Try.follows ?_)
  refine go_call rfl rfl (c_awake11 w2) ?_
  rintro _ w3 ⟨rfl, hx3⟩
  have g3 := g.step hx3
  have hal := hok.len
  have ha3 := (ha.ext hx2).ext hx3
  obtain ⟨m, hmh, hm80, hht⟩ := g3.hgt hsz
  repeat (first | refine sp ?_ | (refine is_load ?_; refine ld ?_) | (refine is_store ?_; refine sr ?_) | (refine is_alloc ?_; refine al ?_) | (refine is_box ?_; refine bx ?_) | (refine isl_load ?_; refine ldl ?_) | (refine isl_store ?_; refine srl ?_) | (refine isl_alloc ?_; refine all' ?_) | (refine isl_box ?_; refine bxl ?_) | refine dr Try.follows ?_)
  refine go_call rfl rfl (p_Dump w3 lo p q B g3.ar) ?_
  rintro _ w4 ⟨hd4, hx4⟩
  have g4 := g3.step hx4
  have hp3 := g3.ar.lt p g3.ar.fpp
  have hd := hd4
  obtain ⟨sv, fv, rfl, hsv, hfv⟩ := hd4
  obtain ⟨s1, c1, rfl, _, _, _⟩ := hsv
  obtain ⟨s2, c2, rfl, _, _, _⟩ := hfv
  repeat (first | refine sp ?_ | (refine is_load ?_; refine ld ?_) | (refine is_store ?_; refine sr ?_) | (refine is_alloc ?_; refine al ?_) | (refine is_box ?_; refine bx ?_) | (refine isl_load ?_; refine ldl ?_) | (refine isl_store ?_; refine srl ?_) | (refine isl_alloc ?_; refine all' ?_) | (refine isl_box ?_; refine bxl ?_) | refine dr Try.follows ?_)
  refine go_call rfl rfl (c_Height _ w4) ?_
  rintro _ w5 ⟨rfl, hx5⟩
  have g5 := g4.step hx5
  rw [hmh]
  repeat (first | refine sp ?_ | (refine is_load ?_; refine ld ?_) | (refine is_store ?_; refine sr ?_) | (refine is_alloc ?_; refine al ?_) | (refine is_box ?_; refine bx ?_) | (refine isl_load ?_; refine ldl ?_) | (refine isl_store ?_; refine srl ?_) | (refine isl_alloc ?_; refine all' ?_) | (refine isl_box ?_; refine bxl ?_) | refine dr Try.follows ?_)
  refine go_name (F := fun w6 => At w6 w5.heap.size _ 49 ∧ Ext w5 w6 ∧ w5.heap.size + 1 ≤ w6.heap.size) ⟨by (repeat (first | assumption | (refine At.new' (by (first | omega | (simp; done) | (simp; omega))) _ _) | apply At.alloc | apply At.drewN | apply At.setRow | (apply At.setRow_neF; first | assumption | (apply Ne.symm; assumption) | omega) | (apply At.extF; assumption))), by (repeat (first | exact Fr.refl _ _ | assumption | apply Fr.drewN | apply Fr.alloc | (apply Fr.transF; assumption) | (refine Fr.setRow ?_ _ (by first | exact Or.inr (by (first | omega | (simp; done) | (simp; omega))) | (exact Or.inl (by first | assumption | (simp; done))))))), by simp⟩ ?_
  rintro w6 ⟨hbx, hx6, hl6⟩
  have g6 := g5.step hx6
  have hd6 := (hd.ext hx5).ext hx6
  have ha6 := ((ha3.ext hx4).ext hx5).ext hx6
  have hs3 := hx2.size
  have hs4 := hx3.size
  have hs5 := hx4.size
  have hs6 := hx5.size
  refine go_loop (G := Nat × Int × Int × AR) [19, 2, 3] (fun ⟨k, x, y, _⟩ => [.int .i64 (k : Int), .int .i64 x, .int .i64 y]) [(4, .int .i64 ii), (5, .int .i64 jj), (13, .slice sa a.length cap), (14, ptr p), (15, .int .u32 (t.root : Int)), (17, ptr w5.heap.size), (18, .int .i64 (12 * ((m : Int) + 2)))]
    (fun ⟨k, x, y, B'⟩ w' => k ≤ 2 ∧ InV x ∧ InV y ∧ TreeAt w w' lo p q B' t ∧ RdU w' w1.heap.size (.slice sa a.length cap) entC a ∧ B'.reads ≤ 1000 * k ∧ B'.dump = B.dump ∧ DpAt w' w3.heap.size (.agg ⟨[.slice s1 B.dump.slots.length c1, .slice s2 B.dump.free.length c2]⟩) B.dump ∧ At w' w5.heap.size [.slice s1 B.dump.slots.length c1, .slice s2 B.dump.free.length c2] 49 ∧ w6.heap.size ≤ w'.heap.size) (fun g => 2 - g.1) (0, x, y, B) rfl ⟨rfl, rfl, rfl, rfl, rfl, rfl, rfl, trivial⟩ ⟨by omega, hx, hy, g6, ha6, by omega, rfl, hd6, hbx, Nat.le_refl _⟩ ?_
  clear hx hy hd6 hbx ha6 g6 g5 g4 hd hx6 ha3
  rintro ⟨k, x, y, B'⟩ w7 ⟨hk, hx, hy, g7, ha7, hre7, hdp, hd7, hbx, hl7⟩
  by_cases hlt : k < 2
  · repeat (first | refine sp ?_ | (refine is_load ?_; refine ld ?_) | (refine is_store ?_; refine sr ?_) | (refine is_alloc ?_; refine al ?_) | (refine is_box ?_; refine bx ?_) | (refine isl_load ?_; refine ldl ?_) | (refine isl_store ?_; refine srl ?_) | (refine isl_alloc ?_; refine all' ?_) | (refine isl_box ?_; refine bxl ?_) | refine dr Try.follows ?_)
    refine go_call rfl rfl (p_Reads w7 lo p q B' g7.ar) ?_
    rintro _ w7 ⟨rfl, rfl⟩
    repeat (first | refine sp ?_ | (refine is_load ?_; refine ld ?_) | (refine is_store ?_; refine sr ?_) | (refine is_alloc ?_; refine al ?_) | (refine is_box ?_; refine bx ?_) | (refine isl_load ?_; refine ldl ?_) | (refine isl_store ?_; refine srl ?_) | (refine isl_alloc ?_; refine all' ?_) | (refine isl_box ?_; refine bxl ?_) | refine dr Try.follows ?_)
    refine go_call rfl rfl (c_Range w7 _ p q B' t x y g7.ar g7.inA g7.ine g7.srt g7.sz6 (g7.inA.rootlt g7.ar.wf)) ?_
    rintro _ w8 ⟨rfl, hR⟩
    obtain ⟨B8, g8, hB8, hf8⟩ := g7.rd hR
    have hrd := hB8.le' (k := 3000) (by omega) (by omega)
    have ha8 := RdU.rd ha7 hf8 hpb
    have hl8 := hf8.size
    have hd8 := hd7.fr hf8 (fun b hb _ e => by omega)
    have hbx8 := hbx.fr hf8 (by omega)
    repeat (first | refine sp ?_ | (refine is_load ?_; refine ld ?_) | (refine is_store ?_; refine sr ?_) | (refine is_alloc ?_; refine al ?_) | (refine is_box ?_; refine bx ?_) | (refine isl_load ?_; refine ldl ?_) | (refine isl_store ?_; refine srl ?_) | (refine isl_alloc ?_; refine all' ?_) | (refine isl_box ?_; refine bxl ?_) | refine dr Try.follows ?_)
    refine go_call rfl rfl (c_Between w8 w1.heap.size _ a x y ha8 (by omega) (by omega)) ?_
    rintro v9 w9 ⟨ho9, hx9⟩
    have g9 := g8.step hx9
    have hhl : (a.filter fun e => decide (x ≤ e.1 ∧ e.1 ≤ y)).length ≤ 120 := Nat.le_trans (List.length_filter_le _ _) hal
    have hhe : InE (a.filter fun e => decide (x ≤ e.1 ∧ e.1 ≤ y)) := fun e he => hok.ine e (List.mem_filter.1 he).1
    have hr9 := ho9.rd.up
    obtain ⟨sv9, cv9, rfl, _, _⟩ := ho9.slice
    repeat (first | refine sp ?_ | (refine is_load ?_; refine ld ?_) | (refine is_store ?_; refine sr ?_) | (refine is_alloc ?_; refine al ?_) | (refine is_box ?_; refine bx ?_) | (refine isl_load ?_; refine ldl ?_) | (refine isl_store ?_; refine srl ?_) | (refine isl_alloc ?_; refine all' ?_) | (refine isl_box ?_; refine bxl ?_) | refine dr Try.follows ?_)
    refine go_call rfl rfl (c_Summarize w9 w9.heap.size _ _ hr9 (Nat.le_refl _) hhe (by omega)) ?_
    rintro _ w10 ⟨rfl, hx10⟩
    have g10 := g9.step hx10
    have htk : smF (rngP x y) t.ents = smy ((a.filter fun e => decide (x ≤ e.1 ∧ e.1 ≤ y)).map (·.2)) := by rw [hen]; rfl
    rw [htk]
    generalize smy ((a.filter fun e => decide (x ≤ e.1 ∧ e.1 ≤ y)).map (·.2)) = s
    unfold Sm.cells
    repeat (first | refine sp ?_ | (refine is_load ?_; refine ld ?_) | (refine is_store ?_; refine sr ?_) | (refine is_alloc ?_; refine al ?_) | (refine is_box ?_; refine bx ?_) | (refine isl_load ?_; refine ldl ?_) | (refine isl_store ?_; refine srl ?_) | (refine isl_alloc ?_; refine all' ?_) | (refine isl_box ?_; refine bxl ?_) | refine dr Try.follows ?_)
    refine go_as 59 (u' := .bool false) rfl (by rw [sm_eq]; rfl) ?_
    refine go_as 60 (u' := .bool false) rfl (by rw [sm_eq]; rfl) ?_
    repeat (first | refine sp ?_ | (refine is_load ?_; refine ld ?_) | (refine is_store ?_; refine sr ?_) | (refine is_alloc ?_; refine al ?_) | (refine is_box ?_; refine bx ?_) | (refine isl_load ?_; refine ldl ?_) | (refine isl_store ?_; refine srl ?_) | (refine isl_alloc ?_; refine all' ?_) | (refine isl_box ?_; refine bxl ?_) | refine dr Try.follows ?_)
    refine go_call rfl rfl (c_Within w10 _ p q B8 B'.reads _ g10.ar hrd.1 (by omega) (by omega) (by omega)) ?_
    rintro _ w10 ⟨rfl, rfl⟩
    have ha10 := (ha8.ext hx9).ext hx10
    have hd10 := (hd8.ext hx9).ext hx10
    have hbx10 := (hbx8.ext hx9).ext hx10
    have hs10 := hx9.size
    have hs11 := hx10.size
    by_cases h0 : a.length = 0
    · repeat (first | refine sp ?_ | (refine is_load ?_; refine ld ?_) | (refine is_store ?_; refine sr ?_) | (refine is_alloc ?_; refine al ?_) | (refine is_box ?_; refine bx ?_) | (refine isl_load ?_; refine ldl ?_) | (refine isl_store ?_; refine srl ?_) | (refine isl_alloc ?_; refine all' ?_) | (refine isl_box ?_; refine bxl ?_) | refine dr Try.follows ?_)
      refine go_stop (G := Nat × Int × Int × AR) (k + 1, x, y, B8) rfl ⟨rfl, rfl, rfl, rfl, rfl, rfl, rfl, trivial⟩ ⟨hlt, hx, hy, g10, ha10, by omega, by rw [hB8.dump, hdp], hd10, hbx10, by omega⟩ (by show 2 - (k + 1) < 2 - k; omega)
    · have m1 := Int.emod_nonneg ii (show (a.length : Int) ≠ 0 by omega)
      have m2 := Int.emod_lt_of_pos ii (show (0 : Int) < a.length by omega)
      have m3 := Int.emod_nonneg jj (show (a.length : Int) ≠ 0 by omega)
      have m4 := Int.emod_lt_of_pos jj (show (0 : Int) < a.length by omega)
      obtain ⟨u, hu⟩ : ∃ u : Nat, ii % (a.length : Int) = u := ⟨(ii % (a.length : Int)).toNat, by omega⟩
      obtain ⟨u2, hu2⟩ : ∃ u : Nat, jj % (a.length : Int) = u := ⟨(jj % (a.length : Int)).toNat, by omega⟩
      have hul : u < a.length := by omega
      have hul2 : u2 < a.length := by omega
      obtain ⟨b, o, es, hbl, hcell⟩ := ha10.at (m := 2) (fun _ => rfl) (by omega) hul
      obtain ⟨b2, o2, es2, hbl2, hcell2⟩ := ha10.at (m := 2) (fun _ => rfl) (by omega) hul2
      subst es
      simp only [Option.some.injEq, Addr.mk.injEq, and_true] at es2
      obtain ⟨rfl, rfl⟩ := es2
      have e0 := hcell 0 (.int .i64 a[u].1) rfl
      have e1 := hcell2 0 (.int .i64 a[u2].1) rfl
      have hv1 := (hok.ine _ (List.getElem_mem hul)).1
      have hv2 := (hok.ine _ (List.getElem_mem hul2)).1
      generalize a[u] = z1 at *
      generalize a[u2] = z2 at *
      repeat (first | refine sp ?_ | (refine is_load ?_; refine ld ?_) | (refine is_store ?_; refine sr ?_) | (refine is_alloc ?_; refine al ?_) | (refine is_box ?_; refine bx ?_) | (refine isl_load ?_; refine ldl ?_) | (refine isl_store ?_; refine srl ?_) | (refine isl_alloc ?_; refine all' ?_) | (refine isl_box ?_; refine bxl ?_))
      refine go_drawE (Fr (fun _ => False) w10) 0 Try.follows (by kernel_rfl) (by kernel_rfl) (by kernel_rfl) ((Fr.refl _ _).drewN 1) ?_
      repeat (first | refine sp ?_ | (refine is_load ?_; refine ld ?_) | (refine is_store ?_; refine sr ?_) | (refine is_alloc ?_; refine al ?_) | (refine is_box ?_; refine bx ?_) | (refine isl_load ?_; refine ldl ?_) | (refine isl_store ?_; refine srl ?_) | (refine isl_alloc ?_; refine all' ?_) | (refine isl_box ?_; refine bxl ?_))
      refine gol_call rfl rfl (c_Mod ii a.length _ hii (by omega)) ?_
      rintro _ w11 ⟨rfl, rfl⟩
      refine ⟨(Fr.refl _ _).drewN 1, ?_⟩
      rw [hu]
      repeat (first | refine sp ?_ | (refine is_load ?_; refine ld ?_) | (refine is_store ?_; refine sr ?_) | (refine is_alloc ?_; refine al ?_) | (refine is_box ?_; refine bx ?_) | (refine isl_load ?_; refine ldl ?_) | (refine isl_store ?_; refine srl ?_) | (refine isl_alloc ?_; refine all' ?_) | (refine isl_box ?_; refine bxl ?_))
      refine gol_call rfl rfl (c_Mod jj a.length _ hjj (by omega)) ?_
      rintro _ w11 ⟨rfl, rfl⟩
      refine ⟨(Fr.refl _ _).drewN 1, ?_⟩
      rw [hu2]
      repeat (first | refine sp ?_ | (refine is_load ?_; refine ld ?_) | (refine is_store ?_; refine sr ?_) | (refine is_alloc ?_; refine al ?_) | (refine is_box ?_; refine bx ?_) | (refine isl_load ?_; refine ldl ?_) | (refine isl_store ?_; refine srl ?_) | (refine isl_alloc ?_; refine all' ?_) | (refine isl_box ?_; refine bxl ?_))
      refine go_stop (G := Nat × Int × Int × AR) (k + 1, z1.1, z2.1, B8) rfl ⟨rfl, rfl, rfl, rfl, rfl, rfl, rfl, trivial⟩ ⟨hlt, hv1, hv2, g10.step (by (repeat (first | exact Fr.refl _ _ | assumption | apply Fr.drewN | apply Fr.alloc | (apply Fr.transF; assumption) | (refine Fr.setRow ?_ _ (by first | exact Or.inr (by (first | omega | (simp; done) | (simp; omega))) | (exact Or.inl (by first | assumption | (simp; done)))))))), ha10.ext (by (repeat (first | exact Fr.refl _ _ | assumption | apply Fr.drewN | apply Fr.alloc | (apply Fr.transF; assumption) | (refine Fr.setRow ?_ _ (by first | exact Or.inr (by (first | omega | (simp; done) | (simp; omega))) | (exact Or.inl (by first | assumption | (simp; done)))))))), by omega, by rw [hB8.dump, hdp], hd10.ext (by (repeat (first | exact Fr.refl _ _ | assumption | apply Fr.drewN | apply Fr.alloc | (apply Fr.transF; assumption) | (refine Fr.setRow ?_ _ (by first | exact Or.inr (by (first | omega | (simp; done) | (simp; omega))) | (exact Or.inl (by first | assumption | (simp; done)))))))), by (repeat (first | assumption | (refine At.new' (by (first | omega | (simp; done) | (simp; omega))) _ _) | apply At.alloc | apply At.drewN | apply At.setRow | (apply At.setRow_neF; first | assumption | (apply Ne.symm; assumption) | omega) | (apply At.extF; assumption))), by simp; omega⟩ (by show 2 - (k + 1) < 2 - k; omega)
  · repeat (first | refine sp ?_ | (refine is_load ?_; refine ld ?_) | (refine is_store ?_; refine sr ?_) | (refine is_alloc ?_; refine al ?_) | (refine is_box ?_; refine bx ?_) | (refine isl_load ?_; refine ldl ?_) | (refine isl_store ?_; refine srl ?_) | (refine isl_alloc ?_; refine all' ?_) | (refine isl_box ?_; refine bxl ?_))
    refine go_drawE (Fr (fun _ => False) w7) 0 Try.follows (by kernel_rfl) (by kernel_rfl) (by kernel_rfl) ((Fr.refl _ _).drewN 1) ?_
    repeat (first | refine sp ?_ | (refine is_load ?_; refine ld ?_) | (refine is_store ?_; refine sr ?_) | (refine is_alloc ?_; refine al ?_) | (refine is_box ?_; refine bx ?_) | (refine isl_load ?_; refine ldl ?_) | (refine isl_store ?_; refine srl ?_) | (refine isl_alloc ?_; refine all' ?_) | (refine isl_box ?_; refine bxl ?_))
    refine gol_call rfl rfl (p_Dump _ lo p q B' (g7.ar.ext (by (repeat (first | exact Fr.refl _ _ | assumption | apply Fr.drewN | apply Fr.alloc | (apply Fr.transF; assumption) | (refine Fr.setRow ?_ _ (by first | exact Or.inr (by (first | omega | (simp; done) | (simp; omega))) | (exact Or.inl (by first | assumption | (simp; done)))))))))) ?_
    rintro _ w8 ⟨hd8, hx8⟩
    have hx8' : Ext w7 w8 := Fr.trans ((Fr.refl _ _).drewN 1) hx8
    refine ⟨hx8', ?_⟩
    have hd9 := hd8
    obtain ⟨sv8, fv8, rfl, _, _⟩ := hd8
    rw [hdp] at hd9
    have hwf := g7.ar.wf
    have hcM := hwf.capM
    have hdl : B.dump.slots.length ≤ 1000000 ∧ B.dump.free.length ≤ 1000000 := by
      rw [← hdp]
      refine ⟨by simp [AR.dump]; omega, ?_⟩
      show B'.order.length ≤ _
      rw [order_len hwf]
      have := rel_le hwf
      unfold AR.free; omega
    repeat (first | refine sp ?_ | (refine is_load ?_; refine ld ?_) | (refine is_store ?_; refine sr ?_) | (refine is_alloc ?_; refine al ?_) | (refine is_box ?_; refine bx ?_) | (refine isl_load ?_; refine ldl ?_) | (refine isl_store ?_; refine srl ?_) | (refine isl_alloc ?_; refine all' ?_) | (refine isl_box ?_; refine bxl ?_))
    refine gol_call rfl rfl (c_SameDump w8 _ _ _ _ B.dump hd9 (hd7.ext hx8') hdl.1 hdl.2) ?_
    rintro _ w9 ⟨rfl, hx9⟩
    refine ⟨hx8'.trans hx9, ?_⟩
    repeat (first | refine sp ?_ | (refine is_load ?_; refine ld ?_) | (refine is_store ?_; refine sr ?_) | (refine is_alloc ?_; refine al ?_) | (refine is_box ?_; refine bx ?_) | (refine isl_load ?_; refine ldl ?_) | (refine isl_store ?_; refine srl ?_) | (refine isl_alloc ?_; refine all' ?_) | (refine isl_box ?_; refine bxl ?_))
    exact go_ret1 rfl rfl ⟨_, rfl, rfl, (g7.ext.trans hx8').trans hx9⟩

end Go.Proofs.Ytklgmomhdlhajaa
