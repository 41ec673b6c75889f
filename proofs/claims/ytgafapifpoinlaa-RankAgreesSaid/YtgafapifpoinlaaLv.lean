/-
  Ranks and selections are inverse; the functions on ranks agree with the reference.
-/
import Derived.Test.YtgafapifpoinlaaLk
import Derived.Test.YtgafapifpoinlaaLg
import Derived.Test.YtgafapifpoinlaaLh
import Derived.Test.YtgafapifpoinlaaMod
import Derived.Test.YtgafapifpoinlaaGt
set_option linter.unusedVariables false
namespace Go.Proofs.Ytgafapifpoinlaa
open Go.Vc

theorem rank_at : ∀ {l : List (Int × Int)} {i : Nat} (hs : Srt l) (h : i < l.length), cntF (befP false (l[i].1)) l = i
  | e :: l, 0, hs, h => by
    obtain ⟨h1, h2⟩ := List.pairwise_cons.1 hs
    refine cntF_none fun u hu => ?_
    rcases List.mem_cons.1 hu with rfl | hu
    · simp [befP]
    · have := h1 u hu; simp [befP]; omega
  | e :: l, i + 1, hs, h => by
    obtain ⟨h1, h2⟩ := List.pairwise_cons.1 hs
    have hi : i < l.length := by simpa using h
    have := h1 _ (List.getElem_mem hi)
    rw [cntF_cons, if_pos (by simp [befP]; exact this), List.getElem_cons_succ, rank_at h2 hi]; omega

theorem tm1000 (x : Int) (h : -9223372036854775808 ≤ x ∧ x ≤ 9223372036854775807) : -9223372036854775808 ≤ x.tmod 1000 ∧ x.tmod 1000 ≤ 9223372036854775807 := by
  rcases Int.le_total 0 x with h0 | h0
  · rw [Int.tmod_eq_emod_of_nonneg h0]; omega
  · rw [show x = -(-x) by omega, Int.neg_tmod, Int.tmod_eq_emod_of_nonneg (by omega)]; omega

set_option maxHeartbeats 8000000 in
theorem c_LawInverse (lv : Value) (l : List (Int × Int)) (tilt x : Int) (w : World) (h : Rd w 0 lv entC l) (he : InE l) (hlen : l.length ≤ 9223372036854775807) (ht : 0 ≤ tilt ∧ tilt ≤ 18446744073709551615) (hx : InV x) :
    Calls Try.prog 6 [lv, .int .u64 tilt, .int .i64 x].toArray w (Ret fun v w' => v = .bool true ∧ Ext w w') := by
  unfold InV at hx
  refine calls_go Try.func6 rfl Try.ntmps6 (Nat.le_of_ble_eq_true rfl) ?_
  repeat (first | refine sp ?_ | (refine is_load ?_; refine ld ?_) | (refine is_store ?_; refine sr ?_) | (refine is_alloc ?_; refine al ?_) | (refine is_box ?_; refine bx ?_) | (refine isl_load ?_; refine ldl ?_) | (refine isl_store ?_; refine srl ?_) | (refine isl_alloc ?_; refine all' ?_) | (refine isl_box ?_; refine bxl ?_) | refine dr Try.follows ?_)
  refine go_call rfl rfl (c_List w lv l 120 h.up he hlen (by omega)) ?_
  rintro v1 w1 ⟨a, ha, hok, hx1⟩
  obtain ⟨sa, cap, rfl, hlc, _, _⟩ := ha
  have ha : RdU w1 w1.heap.size (.slice sa a.length cap) entC a := ⟨sa, cap, rfl, hlc, by assumption, by assumption⟩
  repeat (first | refine sp ?_ | (refine is_load ?_; refine ld ?_) | (refine is_store ?_; refine sr ?_) | (refine is_alloc ?_; refine al ?_) | (refine is_box ?_; refine bx ?_) | (refine isl_load ?_; refine ldl ?_) | (refine isl_store ?_; refine srl ?_) | (refine isl_alloc ?_; refine all' ?_) | (refine isl_box ?_; refine bxl ?_) | refine dr Try.follows ?_)
  refine go_call rfl rfl (c_GrowT w w1 a 120 _ tilt 1 ha hok (by omega) (by omega) (by omega) ht hx1) ?_
  rintro _ w2 ⟨lo, p, q, B, t, rfl, g, hen, hsz, hre, hcp, hpb, hx2⟩
  repeat (first | refine sp ?_ | (refine is_load ?_; refine ld ?_) | (refine is_store ?_; refine sr ?_) | (refine is_alloc ?_; refine al ?_) | (refine is_box ?_; refine bx ?_) | (refine isl_load ?_; refine ldl ?_) | (refine isl_store ?_; refine srl ?_) | (refine isl_alloc ?_; refine all' ?_) | (refine isl_box ?_; refine bxl ?_) | refine dr Try.follows ?_)
  refine go_call rfl rfl (c_awake10 w2) ?_
  rintro _ w3 ⟨rfl, hx3⟩
  have g3 := g.step hx3
  have hal := hok.len
  obtain ⟨m, hmh, hm80, hht⟩ := g3.hgt' hsz
  have N3 := Gt.of g3 ((ha.ext hx2).ext hx3) hpb
  have hso := g3.srt
  rw [hen] at hso
  repeat (first | refine sp ?_ | (refine is_load ?_; refine ld ?_) | (refine is_store ?_; refine sr ?_) | (refine is_alloc ?_; refine al ?_) | (refine is_box ?_; refine bx ?_) | (refine isl_load ?_; refine ldl ?_) | (refine isl_store ?_; refine srl ?_) | (refine isl_alloc ?_; refine all' ?_) | (refine isl_box ?_; refine bxl ?_))
  refine go_loop (G := Nat × AR) [11] (fun ⟨k, _⟩ => [.int .i64 (k : Int)]) [(2, .int .i64 x), (7, .slice sa a.length cap), (8, ptr p), (9, .int .u32 (t.root : Int))]
    (fun ⟨k, B'⟩ w' => k ≤ a.length ∧ Gt w w1 lo p q t a (.slice sa a.length cap) w3.heap.size (fun _ => True) w' B') (fun g => a.length - g.1) (0, B) rfl ⟨rfl, rfl, rfl, rfl, trivial⟩ ⟨by omega, N3⟩ ?_
  clear N3
  rintro ⟨k, B'⟩ w4 ⟨hk, N4⟩
  have hp4 := N4.hp
  have hs4 := N4.hs
  by_cases hlt : k < a.length
  · have hrk := rank_at hso hlt
    have hat : entAt a (k : Int) = some a[k] := by unfold entAt; rw [if_neg (by omega), Int.toNat_natCast, List.getElem?_eq_getElem hlt]
    generalize a[k] = e at *
    obtain ⟨e1, e2⟩ := e
    simp only at hrk
    repeat (first | refine sp ?_ | (refine is_load ?_; refine ld ?_) | (refine is_store ?_; refine sr ?_) | (refine is_alloc ?_; refine al ?_) | (refine is_box ?_; refine bx ?_) | (refine isl_load ?_; refine ldl ?_) | (refine isl_store ?_; refine srl ?_) | (refine isl_alloc ?_; refine all' ?_) | (refine isl_box ?_; refine bxl ?_))
    refine go_call rfl rfl (c_Select w4 lo p q B' t (k : Int) N4.g.ar N4.g.inA N4.g.ine N4.g.sz6) ?_
    rintro _ w5 ⟨rfl, hR5⟩
    obtain ⟨B5, N5, hB5, hf5⟩ := N4.rd hR5
    rw [hen, hat, show entV (some (e1, e2)) = .tuple #[.agg ⟨[.int .i64 e1, .int .i64 e2]⟩, .bool true] from rfl]
    repeat (first | refine sp ?_ | (refine is_load ?_; refine ld ?_) | (refine is_store ?_; refine sr ?_) | (refine is_alloc ?_; refine al ?_) | (refine is_box ?_; refine bx ?_) | (refine isl_load ?_; refine ldl ?_) | (refine isl_store ?_; refine srl ?_) | (refine isl_alloc ?_; refine all' ?_) | (refine isl_box ?_; refine bxl ?_))
    refine go_call rfl rfl (c_Rank _ lo p q B5 t e1 (N5.g.ar.ext (by (repeat (first | exact Fr.refl _ _ | assumption | apply Fr.drewN | apply Fr.alloc | (apply Fr.transF; assumption) | (refine Fr.setRow ?_ _ (by first | exact Or.inr (by (first | omega | (simp; done) | (simp; omega))) | (exact Or.inl (by first | assumption | (simp; done))))))))) N5.g.inA N5.g.ine N5.g.srt N5.g.sz6) ?_
    rintro _ w6 ⟨rfl, hR6⟩
    have hx5 : Ext w5 (w5.alloc (.cells [Value.int .i64 0, .int .i64 0].toArray 35) |>.setRow w5.heap.size [Value.int .i64 e1, .int .i64 e2].toArray) := by (repeat (first | exact Fr.refl _ _ | assumption | apply Fr.drewN | apply Fr.alloc | (apply Fr.transF; assumption) | (refine Fr.setRow ?_ _ (by first | exact Or.inr (by (first | omega | (simp; done) | (simp; omega))) | (exact Or.inl (by first | assumption | (simp; done)))))))
    obtain ⟨B6, N6, hB6, hf6⟩ := (N5.ext hx5).rd hR6
    rw [hen, hrk]
    repeat (first | refine sp ?_ | (refine is_load ?_; refine ld ?_) | (refine is_store ?_; refine sr ?_) | (refine is_alloc ?_; refine al ?_) | (refine is_box ?_; refine bx ?_) | (refine isl_load ?_; refine ldl ?_) | (refine isl_store ?_; refine srl ?_) | (refine isl_alloc ?_; refine all' ?_) | (refine isl_box ?_; refine bxl ?_))
    exact go_stop (G := Nat × AR) (k + 1, B6) rfl ⟨rfl, rfl, rfl, rfl, trivial⟩ ⟨hlt, N6⟩ (by show a.length - (k + 1) < a.length - k; omega)
  repeat (first | refine sp ?_ | (refine is_load ?_; refine ld ?_) | (refine is_store ?_; refine sr ?_) | (refine is_alloc ?_; refine al ?_) | (refine is_box ?_; refine bx ?_) | (refine isl_load ?_; refine ldl ?_) | (refine isl_store ?_; refine srl ?_) | (refine isl_alloc ?_; refine all' ?_) | (refine isl_box ?_; refine bxl ?_))
  refine go_call rfl rfl (c_Rank w4 lo p q B' t x N4.g.ar N4.g.inA N4.g.ine N4.g.srt N4.g.sz6) ?_
  rintro _ w5 ⟨rfl, hR5⟩
  obtain ⟨B5, N5, hB5, hf5⟩ := N4.rd hR5
  repeat (first | refine sp ?_ | (refine is_load ?_; refine ld ?_) | (refine is_store ?_; refine sr ?_) | (refine is_alloc ?_; refine al ?_) | (refine is_box ?_; refine bx ?_) | (refine isl_load ?_; refine ldl ?_) | (refine isl_store ?_; refine srl ?_) | (refine isl_alloc ?_; refine all' ?_) | (refine isl_box ?_; refine bxl ?_))
  refine go_call rfl rfl (c_Select w5 lo p q B5 t (cntF (befP false x) t.ents : Int) N5.g.ar N5.g.inA N5.g.ine N5.g.sz6) ?_
  rintro _ w6 ⟨rfl, hR6⟩
  obtain ⟨B6, N6, hB6, hf6⟩ := N5.rd hR6
  obtain ⟨o1, ho1⟩ : ∃ o, (a.filter (pK (fun z => decide (x ≤ z)))).head? = o := ⟨_, rfl⟩
  have ho2 : entAt a (cntF (befP false x) a : Int) = o1 := by rw [← ho1, nb_ceiling hso x]; rfl
  rw [hen, ho2, show entV o1 = .tuple #[.agg ⟨[.int .i64 (o1.getD (0, 0)).1, .int .i64 (o1.getD (0, 0)).2]⟩, .bool o1.isSome] from rfl]
  repeat (first | refine sp ?_ | (refine is_load ?_; refine ld ?_) | (refine is_store ?_; refine sr ?_) | (refine is_alloc ?_; refine al ?_) | (refine is_box ?_; refine bx ?_) | (refine isl_load ?_; refine ldl ?_) | (refine isl_store ?_; refine srl ?_) | (refine isl_alloc ?_; refine all' ?_) | (refine isl_box ?_; refine bxl ?_))
  refine go_name (F := fun w7 => At w7 w6.heap.size [.int .i64 (o1.getD (0, 0)).1, .int .i64 (o1.getD (0, 0)).2] 35 ∧ Ext w6 w7 ∧ w6.heap.size + 1 ≤ w7.heap.size) ⟨by (repeat (first | assumption | (refine At.new' (by (first | omega | (simp; done) | (simp; omega))) _ _) | apply At.alloc | apply At.drewN | apply At.setRow | (apply At.setRow_neF; first | assumption | (apply Ne.symm; assumption) | omega) | (apply At.extF; assumption))), by (repeat (first | exact Fr.refl _ _ | assumption | apply Fr.drewN | apply Fr.alloc | (apply Fr.transF; assumption) | (refine Fr.setRow ?_ _ (by first | exact Or.inr (by (first | omega | (simp; done) | (simp; omega))) | (exact Or.inl (by first | assumption | (simp; done))))))), by simp⟩ ?_
  rintro w7 ⟨hcx, hx7, hl7⟩
  have hl6 := N6.hs
  have N7 := N6.ext hx7
  refine go_call rfl rfl (c_Ceiling w7 lo p q B6 t x N7.g.ar N7.g.inA N7.g.ine N7.g.srt N7.g.sz6) ?_
  rintro _ w8 ⟨rfl, hR8⟩
  obtain ⟨B8, N8, hB8, hf8⟩ := N7.rd hR8
  replace hcx := hcx.fr hf8 (by omega)
  have hl8 := hf8.size
  rw [hen, ho1, show entV o1 = .tuple #[.agg ⟨[.int .i64 (o1.getD (0, 0)).1, .int .i64 (o1.getD (0, 0)).2]⟩, .bool o1.isSome] from rfl]
  repeat (first | refine sp ?_ | (refine is_load ?_; refine ld ?_) | (refine is_store ?_; refine sr ?_) | (refine is_alloc ?_; refine al ?_) | (refine is_box ?_; refine bx ?_) | (refine isl_load ?_; refine ldl ?_) | (refine isl_store ?_; refine srl ?_) | (refine isl_alloc ?_; refine all' ?_) | (refine isl_box ?_; refine bxl ?_))
  refine go_as 77 (u' := .bool true) rfl (by rw [ent_eq']) ?_
  repeat (first | refine sp ?_ | (refine is_load ?_; refine ld ?_) | (refine is_store ?_; refine sr ?_) | (refine is_alloc ?_; refine al ?_) | (refine is_box ?_; refine bx ?_) | (refine isl_load ?_; refine ldl ?_) | (refine isl_store ?_; refine srl ?_) | (refine isl_alloc ?_; refine all' ?_) | (refine isl_box ?_; refine bxl ?_))
  exact go_ret1 rfl rfl ⟨_, rfl, by simp, N8.g.ext.trans (by (repeat (first | exact Fr.refl _ _ | assumption | apply Fr.drewN | apply Fr.alloc | (apply Fr.transF; assumption) | (refine Fr.setRow ?_ _ (by first | exact Or.inr (by (first | omega | (simp; done) | (simp; omega))) | (exact Or.inl (by first | assumption | (simp; done))))))))⟩

set_option maxHeartbeats 8000000 in
theorem c_LawRank (lv : Value) (l : List (Int × Int)) (tilt x ii y z : Int) (w : World) (h : Rd w 0 lv entC l) (he : InE l) (hlen : l.length ≤ 9223372036854775807) (ht : 0 ≤ tilt ∧ tilt ≤ 18446744073709551615) (hx : InV x) (hii : InV ii) (hy : InV y) (hz : InV z) :
    Calls Try.prog 11 [lv, .int .u64 tilt, .int .i64 x, .int .i64 ii, .int .i64 y, .int .i64 z].toArray w (Ret fun v w' => v = .bool true ∧ Ext w w') := by
  refine calls_go Try.func11 rfl Try.ntmps11 (Nat.le_of_ble_eq_true rfl) ?_
  repeat (first | refine sp ?_ | (refine is_load ?_; refine ld ?_) | (refine is_store ?_; refine sr ?_) | (refine is_alloc ?_; refine al ?_) | (refine is_box ?_; refine bx ?_) | (refine isl_load ?_; refine ldl ?_) | (refine isl_store ?_; refine srl ?_) | (refine isl_alloc ?_; refine all' ?_) | (refine isl_box ?_; refine bxl ?_) | refine dr Try.follows ?_)
  refine go_call rfl rfl (c_List w lv l 120 h.up he hlen (by omega)) ?_
  rintro v1 w1 ⟨a, ha, hok, hx1⟩
  obtain ⟨sa, cap, rfl, hlc, _, _⟩ := ha
  have ha : RdU w1 w1.heap.size (.slice sa a.length cap) entC a := ⟨sa, cap, rfl, hlc, by assumption, by assumption⟩
  repeat (first | refine sp ?_ | (refine is_load ?_; refine ld ?_) | (refine is_store ?_; refine sr ?_) | (refine is_alloc ?_; refine al ?_) | (refine is_box ?_; refine bx ?_) | (refine isl_load ?_; refine ldl ?_) | (refine isl_store ?_; refine srl ?_) | (refine isl_alloc ?_; refine all' ?_) | (refine isl_box ?_; refine bxl ?_) | refine dr Try.follows ?_)
  refine go_call rfl rfl (c_GrowT w w1 a 120 _ tilt 1 ha hok (by omega) (by omega) (by omega) ht hx1) ?_
  rintro _ w2 ⟨lo, p, q, B, t, rfl, g, hen, hsz, hre, hcp, hpb, hx2⟩
  repeat (first | refine sp ?_ | (refine is_load ?_; refine ld ?_) | (refine is_store ?_; refine sr ?_) | (refine is_alloc ?_; refine al ?_) | (refine is_box ?_; refine bx ?_) | (refine isl_load ?_; refine ldl ?_) | (refine isl_store ?_; refine srl ?_) | (refine isl_alloc ?_; refine all' ?_) | (refine isl_box ?_; refine bxl ?_) | refine dr Try.follows ?_)
  refine go_call rfl rfl (c_awake10 w2) ?_
  rintro _ w3 ⟨rfl, hx3⟩
  have g3 := g.step hx3
  have hal := hok.len
  obtain ⟨m, hmh, hm80, hht⟩ := g3.hgt' hsz
  have N3 := Gt.of g3 ((ha.ext hx2).ext hx3) hpb
  have hso := g3.srt
  rw [hen] at hso
  repeat (first | refine sp ?_ | (refine is_load ?_; refine ld ?_) | (refine is_store ?_; refine sr ?_) | (refine is_alloc ?_; refine al ?_) | (refine is_box ?_; refine bx ?_) | (refine isl_load ?_; refine ldl ?_) | (refine isl_store ?_; refine srl ?_) | (refine isl_alloc ?_; refine all' ?_) | (refine isl_box ?_; refine bxl ?_))
  refine go_call rfl rfl (p_Dump w3 lo p q B g3.ar) ?_
  rintro _ w4 ⟨hd4, hx4⟩
  obtain ⟨s1, c1, s2, c2, rfl, d1, d2⟩ := hd4.b
  have hd4' : DpB w4 w3.heap.size w4.heap.size (.agg ⟨[.slice s1 B.dump.slots.length c1, .slice s2 B.dump.free.length c2]⟩) B.dump := ⟨s1, c1, s2, c2, rfl, d1, d2⟩
  have hp3 := N3.hp
  have hl4 := hx4.size
  have N4 := (N3.ext hx4).up w4.heap.size hl4 (Nat.le_refl _) _ hd4' (Stb.dp (by omega) (Nat.le_refl _))
  repeat (first | refine sp ?_ | (refine is_load ?_; refine ld ?_) | (refine is_store ?_; refine sr ?_) | (refine is_alloc ?_; refine al ?_) | (refine is_box ?_; refine bx ?_) | (refine isl_load ?_; refine ldl ?_) | (refine isl_store ?_; refine srl ?_) | (refine isl_alloc ?_; refine all' ?_) | (refine isl_box ?_; refine bxl ?_))
  refine go_call rfl rfl (c_Height (a.length : Int) w4) ?_
  rintro _ w5 ⟨rfl, hx5⟩
  have hl5 := hx5.size
  rw [hmh]
  repeat (first | refine sp ?_ | (refine is_load ?_; refine ld ?_) | (refine is_store ?_; refine sr ?_) | (refine is_alloc ?_; refine al ?_) | (refine is_box ?_; refine bx ?_) | (refine isl_load ?_; refine ldl ?_) | (refine isl_store ?_; refine srl ?_) | (refine isl_alloc ?_; refine all' ?_) | (refine isl_box ?_; refine bxl ?_))
  refine go_name (F := fun w6 => At w6 w5.heap.size [.slice s1 B.dump.slots.length c1, .slice s2 B.dump.free.length c2] 60 ∧ Ext w5 w6 ∧ w5.heap.size + 1 ≤ w6.heap.size) ⟨by (repeat (first | assumption | (refine At.new' (by (first | omega | (simp; done) | (simp; omega))) _ _) | apply At.alloc | apply At.drewN | apply At.setRow | (apply At.setRow_neF; first | assumption | (apply Ne.symm; assumption) | omega) | (apply At.extF; assumption))), by (repeat (first | exact Fr.refl _ _ | assumption | apply Fr.drewN | apply Fr.alloc | (apply Fr.transF; assumption) | (refine Fr.setRow ?_ _ (by first | exact Or.inr (by (first | omega | (simp; done) | (simp; omega))) | (exact Or.inl (by first | assumption | (simp; done))))))), by simp⟩ ?_
  rintro w6 ⟨hbd, hx6, hl6⟩
  have hbdl := hbd.lt
  have N6 := ((N4.ext hx5).ext hx6).up w6.heap.size (by omega) (Nat.le_refl _) (fun w => At w w5.heap.size [.slice s1 B.dump.slots.length c1, .slice s2 B.dump.free.length c2] 60) hbd (Stb.at (by omega) hbdl)
  generalize w5.heap.size = bd at *
  obtain ⟨hi, hhi⟩ : ∃ hi, w6.heap.size = hi := ⟨_, rfl⟩
  rw [hhi] at N6
  refine go_loop (G := Nat × Int × Int × Int × Int × AR) [19, 2, 3, 4, 5] (fun ⟨k, x, ii, y, z, _⟩ => [.int .i64 (k : Int), .int .i64 x, .int .i64 ii, .int .i64 y, .int .i64 z]) [(13, .slice sa a.length cap), (14, ptr p), (15, .int .u32 (t.root : Int)), (17, ptr bd), (18, .int .i64 (6 * ((m : Int) + 2)))]
    (fun ⟨k, x, ii, y, z, B'⟩ w' => k ≤ 2 ∧ InV x ∧ InV ii ∧ InV y ∧ InV z ∧ Gt w w1 lo p q t a (.slice sa a.length cap) hi (fun w_1 => (True ∧ DpB w_1 w3.heap.size w4.heap.size (.agg ⟨[.slice s1 B.dump.slots.length c1, .slice s2 B.dump.free.length c2]⟩) B.dump) ∧ At w_1 bd [.slice s1 B.dump.slots.length c1, .slice s2 B.dump.free.length c2] 60) w' B' ∧ B'.reads ≤ 2000 * k ∧ B'.dump = B.dump) (fun g => 2 - g.1) (0, x, ii, y, z, B) rfl ⟨rfl, rfl, rfl, rfl, rfl, trivial⟩ ⟨by omega, hx, hii, hy, hz, N6, by omega, rfl⟩ ?_
  clear N6 hbd hx hii hy hz
  rintro ⟨k, x, ii, y, z, B'⟩ w7 ⟨hk7, hx, hii, hy, hz, N7, hre7, hdp⟩
  have hp7 := N7.hp
  have h17 := N7.h1
  by_cases hlt : k < 2
  · repeat (first | refine sp ?_ | (refine is_load ?_; refine ld ?_) | (refine is_store ?_; refine sr ?_) | (refine is_alloc ?_; refine al ?_) | (refine is_box ?_; refine bx ?_) | (refine isl_load ?_; refine ldl ?_) | (refine isl_store ?_; refine srl ?_) | (refine isl_alloc ?_; refine all' ?_) | (refine isl_box ?_; refine bxl ?_))
    refine go_call rfl rfl (p_Reads w7 lo p q B' N7.g.ar) ?_
    rintro _ w7 ⟨rfl, rfl⟩
    repeat (first | refine sp ?_ | (refine is_load ?_; refine ld ?_) | (refine is_store ?_; refine sr ?_) | (refine is_alloc ?_; refine al ?_) | (refine is_box ?_; refine bx ?_) | (refine isl_load ?_; refine ldl ?_) | (refine isl_store ?_; refine srl ?_) | (refine isl_alloc ?_; refine all' ?_) | (refine isl_box ?_; refine bxl ?_))
    refine go_call rfl rfl (c_Rank w7 lo p q B' t x N7.g.ar N7.g.inA N7.g.ine N7.g.srt N7.g.sz6) ?_
    rintro _ w8 ⟨rfl, hR8⟩
    obtain ⟨B8, N8, hB8, hf8⟩ := N7.rd hR8
    have hrd := hB8.leq (k := 1000000) (by omega) (by omega)
    repeat (first | refine sp ?_ | (refine is_load ?_; refine ld ?_) | (refine is_store ?_; refine sr ?_) | (refine is_alloc ?_; refine al ?_) | (refine is_box ?_; refine bx ?_) | (refine isl_load ?_; refine ldl ?_) | (refine isl_store ?_; refine srl ?_) | (refine isl_alloc ?_; refine all' ?_) | (refine isl_box ?_; refine bxl ?_))
    refine go_call rfl rfl (c_refRank w8 w1.heap.size _ a x N8.ha (by omega)) ?_
    rintro _ w8 ⟨rfl, rfl⟩
    rw [hen, show (rkN a x : Int) = (cntF (befP false x) a : Int) from rfl]
    repeat (first | refine sp ?_ | (refine is_load ?_; refine ld ?_) | (refine is_store ?_; refine sr ?_) | (refine is_alloc ?_; refine al ?_) | (refine is_box ?_; refine bx ?_) | (refine isl_load ?_; refine ldl ?_) | (refine isl_store ?_; refine srl ?_) | (refine isl_alloc ?_; refine all' ?_) | (refine isl_box ?_; refine bxl ?_))
    refine go_call rfl rfl (c_Within w8 lo p q B8 B'.reads _ N8.g.ar hrd.1 (by omega) (by omega) (by omega)) ?_
    rintro _ w8 ⟨rfl, rfl⟩
    repeat (first | refine sp ?_ | (refine is_load ?_; refine ld ?_) | (refine is_store ?_; refine sr ?_) | (refine is_alloc ?_; refine al ?_) | (refine is_box ?_; refine bx ?_) | (refine isl_load ?_; refine ldl ?_) | (refine isl_store ?_; refine srl ?_) | (refine isl_alloc ?_; refine all' ?_) | (refine isl_box ?_; refine bxl ?_))
    refine go_call rfl rfl (p_Reads w8 lo p q B8 N8.g.ar) ?_
    rintro _ w8 ⟨rfl, rfl⟩
    repeat (first | refine sp ?_ | (refine is_load ?_; refine ld ?_) | (refine is_store ?_; refine sr ?_) | (refine is_alloc ?_; refine al ?_) | (refine is_box ?_; refine bx ?_) | (refine isl_load ?_; refine ldl ?_) | (refine isl_store ?_; refine srl ?_) | (refine isl_alloc ?_; refine all' ?_) | (refine isl_box ?_; refine bxl ?_))
    refine go_call rfl rfl (c_Select w8 lo p q B8 t ii N8.g.ar N8.g.inA N8.g.ine N8.g.sz6) ?_
    rintro _ w9 ⟨rfl, hR9⟩
    obtain ⟨B9, N9, hB9, hf9⟩ := N8.rd hR9
    have hrd9 := hB9.leq (k := 1000000) (by omega) (by omega)
    have hi9 := N9.hs
    obtain ⟨o1, ho1⟩ : ∃ o, entAt a ii = o := ⟨_, rfl⟩
    rw [hen, ho1, show entV o1 = .tuple #[.agg ⟨[.int .i64 (o1.getD (0, 0)).1, .int .i64 (o1.getD (0, 0)).2]⟩, .bool o1.isSome] from rfl]
    repeat (first | refine sp ?_ | (refine is_load ?_; refine ld ?_) | (refine is_store ?_; refine sr ?_) | (refine is_alloc ?_; refine al ?_) | (refine is_box ?_; refine bx ?_) | (refine isl_load ?_; refine ldl ?_) | (refine isl_store ?_; refine srl ?_) | (refine isl_alloc ?_; refine all' ?_) | (refine isl_box ?_; refine bxl ?_))
    refine go_name (F := fun w10 => At w10 w9.heap.size [.int .i64 (o1.getD (0, 0)).1, .int .i64 (o1.getD (0, 0)).2] 35 ∧ Ext w9 w10 ∧ w9.heap.size + 1 ≤ w10.heap.size) ⟨by (repeat (first | assumption | (refine At.new' (by (first | omega | (simp; done) | (simp; omega))) _ _) | apply At.alloc | apply At.drewN | apply At.setRow | (apply At.setRow_neF; first | assumption | (apply Ne.symm; assumption) | omega) | (apply At.extF; assumption))), by (repeat (first | exact Fr.refl _ _ | assumption | apply Fr.drewN | apply Fr.alloc | (apply Fr.transF; assumption) | (refine Fr.setRow ?_ _ (by first | exact Or.inr (by (first | omega | (simp; done) | (simp; omega))) | (exact Or.inl (by first | assumption | (simp; done))))))), by simp⟩ ?_
    rintro w10 ⟨hcx, hx10, hl10⟩
    have N10 := N9.ext hx10
    refine go_call rfl rfl (c_refSelect w10 w1.heap.size _ a ii N10.ha (by omega) (by omega)) ?_
    rintro _ w11 ⟨rfl, hx11⟩
    have N11 := N10.ext hx11
    replace hcx := hcx.ext hx11
    have hl11 := hx11.size
    rw [ho1, show entV o1 = .tuple #[.agg ⟨[.int .i64 (o1.getD (0, 0)).1, .int .i64 (o1.getD (0, 0)).2]⟩, .bool o1.isSome] from rfl]
    repeat (first | refine sp ?_ | (refine is_load ?_; refine ld ?_) | (refine is_store ?_; refine sr ?_) | (refine is_alloc ?_; refine al ?_) | (refine is_box ?_; refine bx ?_) | (refine isl_load ?_; refine ldl ?_) | (refine isl_store ?_; refine srl ?_) | (refine isl_alloc ?_; refine all' ?_) | (refine isl_box ?_; refine bxl ?_))
    refine go_as 93 (u' := .bool false) rfl (by rw [ent_eq']; rfl) ?_
    repeat (first | refine sp ?_ | (refine is_load ?_; refine ld ?_) | (refine is_store ?_; refine sr ?_) | (refine is_alloc ?_; refine al ?_) | (refine is_box ?_; refine bx ?_) | (refine isl_load ?_; refine ldl ?_) | (refine isl_store ?_; refine srl ?_) | (refine isl_alloc ?_; refine all' ?_) | (refine isl_box ?_; refine bxl ?_))
    refine go_as 98 (u' := .bool false) rfl (by simp) ?_
    repeat (first | refine sp ?_ | (refine is_load ?_; refine ld ?_) | (refine is_store ?_; refine sr ?_) | (refine is_alloc ?_; refine al ?_) | (refine is_box ?_; refine bx ?_) | (refine isl_load ?_; refine ldl ?_) | (refine isl_store ?_; refine srl ?_) | (refine isl_alloc ?_; refine all' ?_) | (refine isl_box ?_; refine bxl ?_))
    refine go_name (F := fun w12 => Ext w11 w12) (by (repeat (first | exact Fr.refl _ _ | assumption | apply Fr.drewN | apply Fr.alloc | (apply Fr.transF; assumption) | (refine Fr.setRow ?_ _ (by first | exact Or.inr (by (first | omega | (simp; done) | (simp; omega))) | (exact Or.inl (by first | assumption | (simp; done)))))))) ?_
    rintro w12 hx12
    have N12 := N11.ext hx12
    refine go_call rfl rfl (c_Within w12 lo p q B9 B8.reads _ N12.g.ar hrd9.1 (by omega) (by omega) (by omega)) ?_
    rintro _ w12 ⟨rfl, rfl⟩
    repeat (first | refine sp ?_ | (refine is_load ?_; refine ld ?_) | (refine is_store ?_; refine sr ?_) | (refine is_alloc ?_; refine al ?_) | (refine is_box ?_; refine bx ?_) | (refine isl_load ?_; refine ldl ?_) | (refine isl_store ?_; refine srl ?_) | (refine isl_alloc ?_; refine all' ?_) | (refine isl_box ?_; refine bxl ?_))
    refine go_call rfl rfl (p_Reads w12 lo p q B9 N12.g.ar) ?_
    rintro _ w12 ⟨rfl, rfl⟩
    repeat (first | refine sp ?_ | (refine is_load ?_; refine ld ?_) | (refine is_store ?_; refine sr ?_) | (refine is_alloc ?_; refine al ?_) | (refine is_box ?_; refine bx ?_) | (refine isl_load ?_; refine ldl ?_) | (refine isl_store ?_; refine srl ?_) | (refine isl_alloc ?_; refine all' ?_) | (refine isl_box ?_; refine bxl ?_))
    refine go_call rfl rfl (c_RCount w12 lo p q B9 t y z N12.g.ar N12.g.inA N12.g.ine N12.g.srt N12.g.sz6) ?_
    rintro _ w13 ⟨rfl, hR13⟩
    obtain ⟨B13, N13, hB13, hf13⟩ := N12.rd hR13
    have hrd13 := hB13.leq (k := 1000000) (by omega) (by omega)
    have hi13 := N13.hs
    repeat (first | refine sp ?_ | (refine is_load ?_; refine ld ?_) | (refine is_store ?_; refine sr ?_) | (refine is_alloc ?_; refine al ?_) | (refine is_box ?_; refine bx ?_) | (refine isl_load ?_; refine ldl ?_) | (refine isl_store ?_; refine srl ?_) | (refine isl_alloc ?_; refine all' ?_) | (refine isl_box ?_; refine bxl ?_))
    refine go_call rfl rfl (c_Between w13 w1.heap.size _ a y z N13.ha (by omega) (by omega)) ?_
    rintro v14 w14 ⟨ho14, hx14⟩
    have N14 := N13.ext hx14
    obtain ⟨sv14, cv14, rfl, _, _⟩ := ho14.slice
    rw [hen, show (a.filter fun e => decide (y ≤ e.1 ∧ e.1 ≤ z)).length = cntR y z a from rfl]
    repeat (first | refine sp ?_ | (refine is_load ?_; refine ld ?_) | (refine is_store ?_; refine sr ?_) | (refine is_alloc ?_; refine al ?_) | (refine is_box ?_; refine bx ?_) | (refine isl_load ?_; refine ldl ?_) | (refine isl_store ?_; refine srl ?_) | (refine isl_alloc ?_; refine all' ?_) | (refine isl_box ?_; refine bxl ?_))
    refine go_call rfl rfl (c_Within w14 lo p q B13 B9.reads _ N14.g.ar hrd13.1 (by omega) (by omega) (by omega)) ?_
    rintro _ w14 ⟨rfl, rfl⟩
    unfold InV at hii
    have m1 := Int.emod_nonneg ii (show (a.length : Int) + 2 ≠ 0 by omega)
    have m2 := Int.emod_lt_of_pos ii (show (0 : Int) < a.length + 2 by omega)
    repeat (first | refine sp ?_ | (refine is_load ?_; refine ld ?_) | (refine is_store ?_; refine sr ?_) | (refine is_alloc ?_; refine al ?_) | (refine is_box ?_; refine bx ?_) | (refine isl_load ?_; refine ldl ?_) | (refine isl_store ?_; refine srl ?_) | (refine isl_alloc ?_; refine all' ?_) | (refine isl_box ?_; refine bxl ?_))
    refine go_call rfl rfl (c_Mod ii (a.length + 2) w14 hii (by omega)) ?_
    rintro _ w14 ⟨rfl, rfl⟩
    by_cases h0 : a.length = 0
    · repeat (first | refine sp ?_ | (refine is_load ?_; refine ld ?_) | (refine is_store ?_; refine sr ?_) | (refine is_alloc ?_; refine al ?_) | (refine is_box ?_; refine bx ?_) | (refine isl_load ?_; refine ldl ?_) | (refine isl_store ?_; refine srl ?_) | (refine isl_alloc ?_; refine all' ?_) | (refine isl_box ?_; refine bxl ?_))
      exact go_stop (G := Nat × Int × Int × Int × Int × AR) (k + 1, x, ii % (a.length + 2) - 1, y, z, B13) rfl ⟨rfl, rfl, rfl, rfl, rfl, trivial⟩ ⟨hlt, hx, by unfold InV; omega, hy, hz, N14, by omega, by rw [hB13.dumpE, hB9.dumpE, hB8.dumpE, hdp]⟩ (by show 2 - (k + 1) < 2 - k; omega)
    · have b1 := tm1000 y hy
      have b2 := tm1000 z hz
      have m1 := Int.emod_nonneg (y.tmod 1000) (show (a.length : Int) ≠ 0 by omega)
      have m2 := Int.emod_lt_of_pos (y.tmod 1000) (show (0 : Int) < a.length by omega)
      have m3 := Int.emod_nonneg (z.tmod 1000) (show (a.length : Int) ≠ 0 by omega)
      have m4 := Int.emod_lt_of_pos (z.tmod 1000) (show (0 : Int) < a.length by omega)
      obtain ⟨u, hu⟩ : ∃ u : Nat, y.tmod 1000 % (a.length : Int) = u := ⟨(y.tmod 1000 % (a.length : Int)).toNat, by omega⟩
      obtain ⟨u2, hu2⟩ : ∃ u : Nat, z.tmod 1000 % (a.length : Int) = u := ⟨(z.tmod 1000 % (a.length : Int)).toNat, by omega⟩
      have hul : u < a.length := by omega
      have hul2 : u2 < a.length := by omega
      obtain ⟨b, o, es, hbl, hcell⟩ := N14.ha.at (m := 2) (fun _ => rfl) (by omega) hul
      obtain ⟨b2, o2, es2, hbl2, hcell2⟩ := N14.ha.at (m := 2) (fun _ => rfl) (by omega) hul2
      subst es
      simp only [Option.some.injEq, Addr.mk.injEq, and_true] at es2
      obtain ⟨rfl, rfl⟩ := es2
      have e0 := hcell 0 (.int .i64 a[u].1) rfl
      have e1 := hcell2 0 (.int .i64 a[u2].1) rfl
      have hv1 := (hok.ine _ (List.getElem_mem hul)).1
      have hv2 := (hok.ine _ (List.getElem_mem hul2)).1
      generalize a[u] = z1 at *
      generalize a[u2] = z2 at *
      repeat (first | refine sp ?_ | (refine is_load ?_; refine ld ?_) | (refine is_store ?_; refine sr ?_) | (refine is_alloc ?_; refine al ?_) | (refine is_box ?_; refine bx ?_) | (refine isl_load ?_; refine ldl ?_) | (refine isl_store ?_; refine srl ?_) | (refine isl_alloc ?_; refine all' ?_) | (refine isl_box ?_; refine bxl ?_))
      refine go_drawE (Fr (fun _ => False) w14) 0 Try.follows (by kernel_rfl) (by kernel_rfl) (by kernel_rfl) ((Fr.refl _ _).drewN 1) ?_
      repeat (first | refine sp ?_ | (refine is_load ?_; refine ld ?_) | (refine is_store ?_; refine sr ?_) | (refine is_alloc ?_; refine al ?_) | (refine is_box ?_; refine bx ?_) | (refine isl_load ?_; refine ldl ?_) | (refine isl_store ?_; refine srl ?_) | (refine isl_alloc ?_; refine all' ?_) | (refine isl_box ?_; refine bxl ?_))
      refine gol_call rfl rfl (c_Mod (y.tmod 1000) a.length _ b1 (by omega)) ?_
      rintro _ w15 ⟨rfl, rfl⟩
      refine ⟨(Fr.refl _ _).drewN 1, ?_⟩
      rw [hu]
      repeat (first | refine sp ?_ | (refine is_load ?_; refine ld ?_) | (refine is_store ?_; refine sr ?_) | (refine is_alloc ?_; refine al ?_) | (refine is_box ?_; refine bx ?_) | (refine isl_load ?_; refine ldl ?_) | (refine isl_store ?_; refine srl ?_) | (refine isl_alloc ?_; refine all' ?_) | (refine isl_box ?_; refine bxl ?_))
      refine gol_call rfl rfl (c_Mod (z.tmod 1000) a.length _ b2 (by omega)) ?_
      rintro _ w15 ⟨rfl, rfl⟩
      refine ⟨(Fr.refl _ _).drewN 1, ?_⟩
      rw [hu2]
      repeat (first | refine sp ?_ | (refine is_load ?_; refine ld ?_) | (refine is_store ?_; refine sr ?_) | (refine is_alloc ?_; refine al ?_) | (refine is_box ?_; refine bx ?_) | (refine isl_load ?_; refine ldl ?_) | (refine isl_store ?_; refine srl ?_) | (refine isl_alloc ?_; refine all' ?_) | (refine isl_box ?_; refine bxl ?_))
      exact go_stop (G := Nat × Int × Int × Int × Int × AR) (k + 1, z1.1, ii % (a.length + 2) - 1, z1.1, z2.1, B13) rfl ⟨rfl, rfl, rfl, rfl, rfl, trivial⟩ ⟨hlt, hv1, by unfold InV; omega, hv1, hv2, N14.ext (by (repeat (first | exact Fr.refl _ _ | assumption | apply Fr.drewN | apply Fr.alloc | (apply Fr.transF; assumption) | (refine Fr.setRow ?_ _ (by first | exact Or.inr (by (first | omega | (simp; done) | (simp; omega))) | (exact Or.inl (by first | assumption | (simp; done)))))))), by omega, by rw [hB13.dumpE, hB9.dumpE, hB8.dumpE, hdp]⟩ (by show 2 - (k + 1) < 2 - k; omega)
  repeat (first | refine sp ?_ | (refine is_load ?_; refine ld ?_) | (refine is_store ?_; refine sr ?_) | (refine is_alloc ?_; refine al ?_) | (refine is_box ?_; refine bx ?_) | (refine isl_load ?_; refine ldl ?_) | (refine isl_store ?_; refine srl ?_) | (refine isl_alloc ?_; refine all' ?_) | (refine isl_box ?_; refine bxl ?_))
  refine go_call rfl rfl (p_Reads w7 lo p q B' N7.g.ar) ?_
  rintro _ w7 ⟨rfl, rfl⟩
  repeat (first | refine sp ?_ | (refine is_load ?_; refine ld ?_) | (refine is_store ?_; refine sr ?_) | (refine is_alloc ?_; refine al ?_) | (refine is_box ?_; refine bx ?_) | (refine isl_load ?_; refine ldl ?_) | (refine isl_store ?_; refine srl ?_) | (refine isl_alloc ?_; refine all' ?_) | (refine isl_box ?_; refine bxl ?_))
  refine go_call rfl rfl (c_Median w7 lo p q B' t N7.g.ar N7.g.inA N7.g.ine N7.g.sz6) ?_
  rintro _ w8 ⟨rfl, hR8⟩
  obtain ⟨B8, N8, hB8, hf8⟩ := N7.rd hR8
  have hrd := hB8.leq (k := 1000000) (by omega) (by omega)
  obtain ⟨o1, ho1⟩ : ∃ o, entAt a (((a.length : Int) + 1) / 2 - 1) = o := ⟨_, rfl⟩
  have hi8 := N8.hs
  rw [hen, hsz, ho1, show entV o1 = .tuple #[.agg ⟨[.int .i64 (o1.getD (0, 0)).1, .int .i64 (o1.getD (0, 0)).2]⟩, .bool o1.isSome] from rfl]
  repeat (first | refine sp ?_ | (refine is_load ?_; refine ld ?_) | (refine is_store ?_; refine sr ?_) | (refine is_alloc ?_; refine al ?_) | (refine is_box ?_; refine bx ?_) | (refine isl_load ?_; refine ldl ?_) | (refine isl_store ?_; refine srl ?_) | (refine isl_alloc ?_; refine all' ?_) | (refine isl_box ?_; refine bxl ?_))
  refine go_name (F := fun w9 => At w9 w8.heap.size [.int .i64 (o1.getD (0, 0)).1, .int .i64 (o1.getD (0, 0)).2] 35 ∧ Ext w8 w9 ∧ w8.heap.size + 1 ≤ w9.heap.size) ⟨by (repeat (first | assumption | (refine At.new' (by (first | omega | (simp; done) | (simp; omega))) _ _) | apply At.alloc | apply At.drewN | apply At.setRow | (apply At.setRow_neF; first | assumption | (apply Ne.symm; assumption) | omega) | (apply At.extF; assumption))), by (repeat (first | exact Fr.refl _ _ | assumption | apply Fr.drewN | apply Fr.alloc | (apply Fr.transF; assumption) | (refine Fr.setRow ?_ _ (by first | exact Or.inr (by (first | omega | (simp; done) | (simp; omega))) | (exact Or.inl (by first | assumption | (simp; done))))))), by simp⟩ ?_
  rintro w9 ⟨hcx, hx9, hl9⟩
  have N9 := N8.ext hx9
  refine go_call rfl rfl (c_refSelect w9 w1.heap.size _ a _ N9.ha (by omega) (by omega)) ?_
  rintro _ w10 ⟨rfl, hx10⟩
  have N10 := N9.ext hx10
  replace hcx := hcx.ext hx10
  have hl10 := hx10.size
  rw [ho1, show entV o1 = .tuple #[.agg ⟨[.int .i64 (o1.getD (0, 0)).1, .int .i64 (o1.getD (0, 0)).2]⟩, .bool o1.isSome] from rfl]
  repeat (first | refine sp ?_ | (refine is_load ?_; refine ld ?_) | (refine is_store ?_; refine sr ?_) | (refine is_alloc ?_; refine al ?_) | (refine is_box ?_; refine bx ?_) | (refine isl_load ?_; refine ldl ?_) | (refine isl_store ?_; refine srl ?_) | (refine isl_alloc ?_; refine all' ?_) | (refine isl_box ?_; refine bxl ?_))
  refine go_name (F := fun w11 => At w11 w8.heap.size [.int .i64 (o1.getD (0, 0)).1, .int .i64 (o1.getD (0, 0)).2] 35 ∧ At w11 w10.heap.size [.int .i64 (o1.getD (0, 0)).1, .int .i64 (o1.getD (0, 0)).2] 35 ∧ Ext w10 w11 ∧ w10.heap.size + 1 ≤ w11.heap.size) ⟨by (repeat (first | assumption | (refine At.new' (by (first | omega | (simp; done) | (simp; omega))) _ _) | apply At.alloc | apply At.drewN | apply At.setRow | (apply At.setRow_neF; first | assumption | (apply Ne.symm; assumption) | omega) | (apply At.extF; assumption))), by (repeat (first | assumption | (refine At.new' (by (first | omega | (simp; done) | (simp; omega))) _ _) | apply At.alloc | apply At.drewN | apply At.setRow | (apply At.setRow_neF; first | assumption | (apply Ne.symm; assumption) | omega) | (apply At.extF; assumption))), by (repeat (first | exact Fr.refl _ _ | assumption | apply Fr.drewN | apply Fr.alloc | (apply Fr.transF; assumption) | (refine Fr.setRow ?_ _ (by first | exact Or.inr (by (first | omega | (simp; done) | (simp; omega))) | (exact Or.inl (by first | assumption | (simp; done))))))), by simp⟩ ?_
  clear hcx
  rintro w11 ⟨hcx, hcy, hx11, hl11⟩
  have N11 := N10.ext hx11
  generalize w8.heap.size = bx at *
  generalize w10.heap.size = by_ at *
  refine go_drawE (Fr (fun _ => False) w11) 0 Try.follows (by kernel_rfl) (by kernel_rfl) (by kernel_rfl) ((Fr.refl _ _).drewN 1) ?_
  repeat (first | refine sp ?_ | (refine is_load ?_; refine ld ?_) | (refine is_store ?_; refine sr ?_) | (refine is_alloc ?_; refine al ?_) | (refine is_box ?_; refine bx ?_) | (refine isl_load ?_; refine ldl ?_) | (refine isl_store ?_; refine srl ?_) | (refine isl_alloc ?_; refine all' ?_) | (refine isl_box ?_; refine bxl ?_))
  refine go_as 175 (u' := .bool true) rfl (by rw [ent_eq']) ?_
  repeat (first | refine sp ?_ | (refine is_load ?_; refine ld ?_) | (refine is_store ?_; refine sr ?_) | (refine is_alloc ?_; refine al ?_) | (refine is_box ?_; refine bx ?_) | (refine isl_load ?_; refine ldl ?_) | (refine isl_store ?_; refine srl ?_) | (refine isl_alloc ?_; refine all' ?_) | (refine isl_box ?_; refine bxl ?_))
  refine go_as 180 (u' := .bool true) rfl (by simp) ?_
  repeat (first | refine sp ?_ | (refine is_load ?_; refine ld ?_) | (refine is_store ?_; refine sr ?_) | (refine is_alloc ?_; refine al ?_) | (refine is_box ?_; refine bx ?_) | (refine isl_load ?_; refine ldl ?_) | (refine isl_store ?_; refine srl ?_) | (refine isl_alloc ?_; refine all' ?_) | (refine isl_box ?_; refine bxl ?_))
  have N12 := N11.ext ((Fr.refl _ _).drewN 1)
  refine gol_call rfl rfl (c_Within _ lo p q B8 B'.reads _ N12.g.ar hrd.1 (by omega) (by omega) (by omega)) ?_
  rintro _ w12 ⟨rfl, rfl⟩
  refine ⟨(Fr.refl _ _).drewN 1, ?_⟩
  repeat (first | refine sp ?_ | (refine is_load ?_; refine ld ?_) | (refine is_store ?_; refine sr ?_) | (refine is_alloc ?_; refine al ?_) | (refine is_box ?_; refine bx ?_) | (refine isl_load ?_; refine ldl ?_) | (refine isl_store ?_; refine srl ?_) | (refine isl_alloc ?_; refine all' ?_) | (refine isl_box ?_; refine bxl ?_))
  refine gol_call rfl rfl (p_Dump _ lo p q B8 N12.g.ar) ?_
  rintro _ w18 ⟨hd18, hx18⟩
  have hx18' : Ext w11 w18 := Fr.trans ((Fr.refl _ _).drewN 1) hx18
  refine ⟨hx18', ?_⟩
  have N18 := N11.ext hx18'
  have hdE : B8.dump = B.dump := by rw [hB8.dumpE, hdp]
  have hdl := dump_len N11.g.ar.wf
  rw [hdE] at hd18 hdl
  have hd19 := hd18
  obtain ⟨sv8, fv8, rfl, _, _⟩ := hd18
  have hbdF := N11.hF.2
  repeat (first | refine sp ?_ | (refine is_load ?_; refine ld ?_) | (refine is_store ?_; refine sr ?_) | (refine is_alloc ?_; refine al ?_) | (refine is_box ?_; refine bx ?_) | (refine isl_load ?_; refine ldl ?_) | (refine isl_store ?_; refine srl ?_) | (refine isl_alloc ?_; refine all' ?_) | (refine isl_box ?_; refine bxl ?_))
  refine gol_call rfl rfl (c_SameDump w18 _ _ _ _ B.dump hd19 (N18.hF.1.2.dp (by have := N18.hs; omega)) hdl.1 hdl.2) ?_
  rintro _ w19 ⟨rfl, hx19⟩
  refine ⟨hx18'.trans hx19, ?_⟩
  repeat (first | refine sp ?_ | (refine is_load ?_; refine ld ?_) | (refine is_store ?_; refine sr ?_) | (refine is_alloc ?_; refine al ?_) | (refine is_box ?_; refine bx ?_) | (refine isl_load ?_; refine ldl ?_) | (refine isl_store ?_; refine srl ?_) | (refine isl_alloc ?_; refine all' ?_) | (refine isl_box ?_; refine bxl ?_))
  exact go_ret1 rfl rfl ⟨_, rfl, rfl, N18.g.ext.trans hx19⟩

end Go.Proofs.Ytgafapifpoinlaa
