/-
  ShapeChecks: an arena that is made by steps; the law.
-/
import Derived.Test.YtfaeboamjfdjlaaUg
import Derived.Test.YtfaeboamjfdjlaaBu
set_option linter.unusedVariables false
namespace Go.Proofs.Ytfaeboamjfdjlaa
open Go.Vc

abbrev St3 : Type := Int × Int × Int
def s3C (e : St3) : List Value := [.int .i64 e.1, .int .i64 e.2.1, .int .i64 e.2.2]
def InS3 (e : St3) : Prop := (-9223372036854775808 ≤ e.1 ∧ e.1 ≤ 9223372036854775807) ∧ (-9223372036854775808 ≤ e.2.1 ∧ e.2.1 ≤ 9223372036854775807) ∧ (-9223372036854775808 ≤ e.2.2 ∧ e.2.2 ≤ 9223372036854775807)

set_option maxHeartbeats 4000000 in
theorem c_build7 (w : World) (lv : Value) (l : List St3) (hr : RdU w w.heap.size lv s3C l) (hl : l.length ≤ 9223372036854775807) (hin : ∀ e ∈ l, InS3 e) :
    Calls Try.prog 5 [lv].toArray w (Ret fun r w' => ∃ (lo p : Nat) (q : AP) (A : AR) (ms : List Nat) (mv : Value), r = .tuple #[ptr p, mv, .bool true] ∧ Bld w w' lo p q A ms mv ∧ ms.length ≤ 60) := by
  have hr0 := hr
  obtain ⟨sa, cap, rfl, hlc, _, _⟩ := hr0
  obtain ⟨n, hn⟩ : ∃ n : Nat, n = min l.length 40 := ⟨_, rfl⟩
  have hn1 : n ≤ l.length := by omega
  have hn2 : n ≤ 40 := by omega
  refine calls_go Try.func5 rfl Try.ntmps5 (Nat.le_of_ble_eq_true rfl) ?_
  repeat (first | refine sp ?_ | (refine is_load ?_; refine ld ?_) | (refine is_store ?_; refine sr ?_) | (refine is_alloc ?_; refine al ?_) | (refine is_box ?_; refine bx ?_) | (refine isl_load ?_; refine ldl ?_) | (refine isl_store ?_; refine srl ?_) | (refine isl_alloc ?_; refine all' ?_) | (refine isl_box ?_; refine bxl ?_))
  refine go_call rfl rfl (p_New w 60 (by omega) (by omega)) ?_
  rintro _ w1 ⟨p, q, rfl, ha, hq, hx1⟩
  have hnew : (AR.new 60).free = 60 := by show 0 + 60 - 0 = _; omega
  have g1 : Ars w1 w.heap.size p q (AR.new 60) (fun _ => 0) := ⟨ha, Sound.new (by omega) (by omega), hx1.size, hq⟩
  repeat (first | refine sp ?_ | (refine is_load ?_; refine ld ?_) | (refine is_store ?_; refine sr ?_) | (refine is_alloc ?_; refine al ?_) | (refine is_box ?_; refine bx ?_) | (refine isl_load ?_; refine ldl ?_) | (refine isl_store ?_; refine srl ?_) | (refine isl_alloc ?_; refine all' ?_) | (refine isl_box ?_; refine bxl ?_))
  refine go_litG (l := [.int .u32 0]) rfl rfl (by decide) (by decide) rfl ?_
  have hx2 : Ext w1 (w1.alloc (.cells [Value.int .u32 0].toArray 23)) := by (repeat (first | exact Fr.refl _ _ | assumption | apply Fr.drewN | apply Fr.alloc | (apply Fr.transF; assumption) | (refine Fr.setRow ?_ _ (by first | exact Or.inr (by (first | omega | (simp; done) | (simp; omega))) | (exact Or.inl (by first | assumption | (simp; done)))))))
  have hat2 := At.new w1 [Value.int .u32 0] 23
  have hs1 := hx1.size
  have b2 : Bld w (w1.alloc (.cells [Value.int .u32 0].toArray 23)) w.heap.size p q (AR.new 60) [0] (.slice (some ⟨w1.heap.size, 0, none⟩) 1 1) := by
    refine ⟨(g1.ext hx2).congr fun i hi => ?_, fun x hx => Or.inl (by simpa using hx), ?_, fun b hb h => ?_, by simp, hx1.trans hx2, Nat.le_refl _⟩
    · rw [List.count_eq_zero.2 (by simp; omega)]
    · unfold OwnN
      exact Own.of_block1 (C := []) rfl hs1 (by simpa using hat2) (by simp [maxLen]) rfl
    · simp only [Value.ownBlock, Option.some.injEq] at hb
      have := ha.lt b h; omega
  generalize w1.alloc (.cells [Value.int .u32 0].toArray 23) = w2 at *
  generalize hmv0 : Value.slice (some ⟨w1.heap.size, 0, none⟩) 1 1 = mv0 at *
  repeat (first | refine sp ?_ | (refine is_load ?_; refine ld ?_) | (refine is_store ?_; refine sr ?_) | (refine is_alloc ?_; refine al ?_) | (refine is_box ?_; refine bx ?_) | (refine isl_load ?_; refine ldl ?_) | (refine isl_store ?_; refine srl ?_) | (refine isl_alloc ?_; refine all' ?_) | (refine isl_box ?_; refine bxl ?_))
  refine go_loop (G := Nat × Value × List Nat) [8, 7] (fun ⟨k, mv, _⟩ => [.int .i64 (k : Int), mv]) [(0, .slice sa l.length cap), (5, ptr p)]
    (fun ⟨k, mv, ms⟩ w' => k ≤ n ∧ ∃ q A, Bld w w' w.heap.size p q A ms mv ∧ A.free + ms.length = 61 ∧ ms.length ≤ k + 1) (fun g => n - g.1) (0, mv0, [0]) rfl ⟨rfl, rfl, trivial⟩ ⟨by omega, q, _, b2, by rw [hnew]; simp, by simp⟩ ?_
  rintro ⟨k, mv, ms⟩ w3 ⟨hk, q3, A, b3, hfr, hml⟩
  have hml1 := b3.len.1
  by_cases hlt : k < n
  · have hkl : k < l.length := by omega
    have hk40 : k < 40 := by omega
    obtain ⟨b, o, es, hbl, hcell⟩ := (hr.ext b3.ext).at (m := 3) (fun _ => rfl) (by omega) hkl
    subst es
    obtain ⟨hi0, hi1, hi2⟩ := hin _ (List.getElem_mem hkl)
    have e0 : w3.cell? ⟨b, o + k * 3 + 0, none⟩ = some (.int .i64 l[k].1) := hcell 0 _ rfl
    have e1 : w3.cell? ⟨b, o + k * 3 + 1, none⟩ = some (.int .i64 l[k].2.1) := hcell 1 _ rfl
    have e2 : w3.cell? ⟨b, o + k * 3 + 2, none⟩ = some (.int .i64 l[k].2.2) := hcell 2 _ rfl
    clear hcell
    obtain ⟨⟨key, il, ir⟩, hle⟩ : ∃ e, l[k] = e := ⟨_, rfl⟩
    rw [hle] at e0 e1 e2 hi0 hi1 hi2
    simp only at e0 e1 e2 hi0 hi1 hi2
    obtain ⟨sv, cv, hmv, hcv, _⟩ := Own.slice b3.own
    subst hmv
    have hml3 := b3.len.2
    obtain ⟨u1, hu1⟩ : ∃ u : Nat, il % (ms.length : Int) = u := ⟨(il % (ms.length : Int)).toNat, by have := Int.emod_nonneg il (show (ms.length : Int) ≠ 0 by omega); omega⟩
    obtain ⟨u2, hu2⟩ : ∃ u : Nat, ir % (ms.length : Int) = u := ⟨(ir % (ms.length : Int)).toNat, by have := Int.emod_nonneg ir (show (ms.length : Int) ≠ 0 by omega); omega⟩
    have hv1 : u1 < ms.length := by have := Int.emod_lt_of_pos il (show (0 : Int) < ms.length by omega); omega
    have hv2 : u2 < ms.length := by have := Int.emod_lt_of_pos ir (show (0 : Int) < ms.length by omega); omega
    obtain ⟨mb, mo, esv, hc1, _⟩ := OwnN.at b3.own hv1
    obtain ⟨mb2, mo2, esv2, hc2, _⟩ := OwnN.at b3.own hv2
    subst esv
    simp only [Option.some.injEq, Addr.mk.injEq, and_true] at esv2
    obtain ⟨rfl, rfl⟩ := esv2
    have hus1 := b3.us _ (List.getElem_mem hv1)
    have hus2 := b3.us _ (List.getElem_mem hv2)
    generalize ms[u1] = i1 at *
    generalize ms[u2] = i2 at *
    have hbq : ¬ q3.fp b := fun h => by have := b3.ars.lof b h; omega
    have hmq : ¬ q3.fp mb := b3.dis mb rfl
    repeat (first | refine sp ?_ | (refine is_load ?_; refine ld ?_) | (refine is_store ?_; refine sr ?_) | (refine is_alloc ?_; refine al ?_) | (refine is_box ?_; refine bx ?_) | (refine isl_load ?_; refine ldl ?_) | (refine isl_store ?_; refine srl ?_) | (refine isl_alloc ?_; refine all' ?_) | (refine isl_box ?_; refine bxl ?_))
    refine go_drawE (Fr q3.fp w3) 0 Try.follows (by kernel_rfl) (by kernel_rfl) (by kernel_rfl) ((Fr.refl _ _).drewN 1) ?_
    repeat (first | refine sp ?_ | (refine is_load ?_; refine ld ?_) | (refine is_store ?_; refine sr ?_) | (refine is_alloc ?_; refine al ?_) | (refine is_box ?_; refine bx ?_) | (refine isl_load ?_; refine ldl ?_) | (refine isl_store ?_; refine srl ?_) | (refine isl_alloc ?_; refine all' ?_) | (refine isl_box ?_; refine bxl ?_))
    refine gol_call rfl rfl (c_Mod il ms.length _ hi1 (by omega)) ?_
    rintro _ w4 ⟨rfl, rfl⟩
    refine ⟨(Fr.refl _ _).drewN 1, ?_⟩
    simp only [hu1]
    repeat (first | refine sp ?_ | (refine is_load ?_; refine ld ?_) | (refine is_store ?_; refine sr ?_) | (refine is_alloc ?_; refine al ?_) | (refine is_box ?_; refine bx ?_) | (refine isl_load ?_; refine ldl ?_) | (refine isl_store ?_; refine srl ?_) | (refine isl_alloc ?_; refine all' ?_) | (refine isl_box ?_; refine bxl ?_))
    refine gol_call rfl rfl (c_Mod ir ms.length _ hi2 (by omega)) ?_
    rintro _ w4 ⟨rfl, rfl⟩
    refine ⟨(Fr.refl _ _).drewN 1, ?_⟩
    simp only [hu2]
    repeat (first | refine sp ?_ | (refine is_load ?_; refine ld ?_) | (refine is_store ?_; refine sr ?_) | (refine is_alloc ?_; refine al ?_) | (refine is_box ?_; refine bx ?_) | (refine isl_load ?_; refine ldl ?_) | (refine isl_store ?_; refine srl ?_) | (refine isl_alloc ?_; refine all' ?_) | (refine isl_box ?_; refine bxl ?_))
    have hxd : Ext w3 (w3.drewN 1) := (Fr.refl _ _).drewN 1
    have bd := b3.step hxd
    refine gol_call rfl rfl (c_MakeG (w3.drewN 1) w.heap.size p q3 A _ (key.tmod 12) 0 i1 i2 bd.ars (fun i => by have := b3.hb i; omega) hus1 hus2) ?_
    generalize w3.drewN 1 = wd at *
    rintro _ w4 (⟨i, rfl, q4, B, a4, m4, hq4, hf4⟩ | ⟨E, hE, rfl, q4, a4, hq4, hf4⟩)
    · refine ⟨Fr.trans (hxd.mono fun _ e => e.elim) hf4, ?_⟩
      have hmfr := m4.free
      have hown4 : OwnN w4 w.heap.size (.slice (some ⟨mb, mo, none⟩) ms.length cv) ms := Own.of_heap bd.own fun b hb => hf4.block b (World.ownsRow.lt bd.own b hb).2 (bd.dis b hb)
      have hs4 := hf4.size
      have hsd := bd.ext.size
      unfold OwnN at hown4
      repeat (first | refine sp ?_ | (refine is_load ?_; refine ld ?_) | (refine is_store ?_; refine sr ?_) | (refine is_alloc ?_; refine al ?_) | (refine is_box ?_; refine bx ?_) | (refine isl_load ?_; refine ldl ?_) | (refine isl_store ?_; refine srl ?_) | (refine isl_alloc ?_; refine all' ?_) | (refine isl_box ?_; refine bxl ?_))
      refine go_pushG (l := [.int .u32 (i : Int)]) (by decide) rfl rfl rfl rfl hown4 rfl (by simp [Value.oneCell']) (by omega) (by simp [maxLen]; omega) (by omega) (by omega) ?_
      intro v5 w5 ho5 hg5 hbk5
      have ho5' : OwnN w5 w.heap.size v5 (ms ++ [i]) := by
        unfold OwnN
        rw [List.map_append, List.length_append]
        exact ho5
      have b5 := bd.push a4 m4.kp (Or.inr m4.use) hq4 hf4 (by omega) ho5' hg5 hbk5
      repeat (first | refine sp ?_ | (refine is_load ?_; refine ld ?_) | (refine is_store ?_; refine sr ?_) | (refine is_alloc ?_; refine al ?_) | (refine is_box ?_; refine bx ?_) | (refine isl_load ?_; refine ldl ?_) | (refine isl_store ?_; refine srl ?_) | (refine isl_alloc ?_; refine all' ?_) | (refine isl_box ?_; refine bxl ?_))
      exact go_stop (G := Nat × Value × List Nat) (k + 1, v5, ms ++ [i]) rfl ⟨rfl, rfl, trivial⟩ ⟨hlt, q4, B, b5, by simp; omega, by simp; omega⟩ (by show n - (k + 1) < n - k; omega)
    · refine ⟨Fr.trans (hxd.mono fun _ e => e.elim) hf4, ?_⟩
      obtain rfl : E = 1 := by
        rcases hE with h | ⟨_, h⟩
        · exact h
        · omega
      have b4 := bd.same a4 (Kp.refl A) hq4 hf4
      repeat (first | refine sp ?_ | (refine is_load ?_; refine ld ?_) | (refine is_store ?_; refine sr ?_) | (refine is_alloc ?_; refine al ?_) | (refine is_box ?_; refine bx ?_) | (refine isl_load ?_; refine ldl ?_) | (refine isl_store ?_; refine srl ?_) | (refine isl_alloc ?_; refine all' ?_) | (refine isl_box ?_; refine bxl ?_))
      exact go_stop (G := Nat × Value × List Nat) (k + 1, _, ms) rfl ⟨rfl, rfl, trivial⟩ ⟨hlt, q4, A, b4, hfr, by show ms.length ≤ k + 1 + 1; omega⟩ (by show n - (k + 1) < n - k; omega)
  · obtain rfl : k = n := by omega
    by_cases hkl : k < l.length
    · have hk40 : k = 40 := by omega
      subst hk40
      repeat (first | refine sp ?_ | (refine is_load ?_; refine ld ?_) | (refine is_store ?_; refine sr ?_) | (refine is_alloc ?_; refine al ?_) | (refine is_box ?_; refine bx ?_) | (refine isl_load ?_; refine ldl ?_) | (refine isl_store ?_; refine srl ?_) | (refine isl_alloc ?_; refine all' ?_) | (refine isl_box ?_; refine bxl ?_))
      exact go_ret3 rfl rfl rfl rfl ⟨_, rfl, w.heap.size, p, q3, A, ms, mv, rfl, b3, by omega⟩
    · repeat (first | refine sp ?_ | (refine is_load ?_; refine ld ?_) | (refine is_store ?_; refine sr ?_) | (refine is_alloc ?_; refine al ?_) | (refine is_box ?_; refine bx ?_) | (refine isl_load ?_; refine ldl ?_) | (refine isl_store ?_; refine srl ?_) | (refine isl_alloc ?_; refine all' ?_) | (refine isl_box ?_; refine bxl ?_))
      exact go_ret3 rfl rfl rfl rfl ⟨_, rfl, w.heap.size, p, q3, A, ms, mv, rfl, b3, by omega⟩

theorem RdsB.ck {A B : AR} {n : Nat} (h : Rds A B n) {t : Tr} (hi : InA A t) : InA B t := h.inA hi

set_option maxHeartbeats 4000000 in
theorem c_LawChecks (w : World) (lv : Value) (l : List St3) (raw : Int) (hr : RdU w w.heap.size lv s3C l) (hl : l.length ≤ 9223372036854775807) (hin : ∀ e ∈ l, InS3 e) (hraw : 0 ≤ raw ∧ raw ≤ 4294967295) :
    Calls Try.prog 3 [lv, .int .u32 raw].toArray w (Ret fun r w' => r = .bool true ∧ Ext w w') := by
  obtain ⟨rw_, rfl⟩ := Int.eq_ofNat_of_zero_le hraw.1
  refine calls_go Try.func3 rfl Try.ntmps3 (Nat.le_of_ble_eq_true rfl) ?_
  repeat (first | refine sp ?_ | (refine is_load ?_; refine ld ?_) | (refine is_store ?_; refine sr ?_) | (refine is_alloc ?_; refine al ?_) | (refine is_box ?_; refine bx ?_) | (refine isl_load ?_; refine ldl ?_) | (refine isl_store ?_; refine srl ?_) | (refine isl_alloc ?_; refine all' ?_) | (refine isl_box ?_; refine bxl ?_))
  refine go_call rfl rfl (c_build7 w lv l hr hl hin) ?_
  rintro _ w1 ⟨lo, p, q, A, ms, mv, rfl, b1, hml⟩
  obtain ⟨sv, cv, hmv, hcv, _⟩ := Own.slice b1.own
  subst hmv
  repeat (first | refine sp ?_ | (refine is_load ?_; refine ld ?_) | (refine is_store ?_; refine sr ?_) | (refine is_alloc ?_; refine al ?_) | (refine is_box ?_; refine bx ?_) | (refine isl_load ?_; refine ldl ?_) | (refine isl_store ?_; refine srl ?_) | (refine isl_alloc ?_; refine all' ?_) | (refine isl_box ?_; refine bxl ?_))
  refine go_call rfl rfl (c_awake7 w1) ?_
  rintro _ w1 ⟨rfl, rfl⟩
  repeat (first | refine sp ?_ | (refine is_load ?_; refine ld ?_) | (refine is_store ?_; refine sr ?_) | (refine is_alloc ?_; refine al ?_) | (refine is_box ?_; refine bx ?_) | (refine isl_load ?_; refine ldl ?_) | (refine isl_store ?_; refine srl ?_) | (refine isl_alloc ?_; refine all' ?_) | (refine isl_box ?_; refine bxl ?_))
  refine go_call rfl rfl (p_Dump w1 lo p q A b1.ars.ar) ?_
  rintro _ w2 ⟨hd2, hx2⟩
  have hd2' := hd2
  obtain ⟨s1, c1, s2, c2, rfl, _, _⟩ := hd2'.b
  have b2 := b1.step hx2
  have hl2 := hx2.size
  have hdB := hd2.b
  repeat (first | refine sp ?_ | (refine is_load ?_; refine ld ?_) | (refine is_store ?_; refine sr ?_) | (refine is_alloc ?_; refine al ?_) | (refine is_box ?_; refine bx ?_) | (refine isl_load ?_; refine ldl ?_) | (refine isl_store ?_; refine srl ?_) | (refine isl_alloc ?_; refine all' ?_) | (refine isl_box ?_; refine bxl ?_))
  refine go_name (F := fun w3 => At w3 w2.heap.size [.slice s1 A.dump.slots.length c1, .slice s2 A.dump.free.length c2] 31 ∧ Ext w2 w3) ⟨by (repeat (first | assumption | (refine At.new' (by (first | omega | (simp; done) | (simp; omega))) _ _) | apply At.alloc | apply At.drewN | apply At.setRow | (apply At.setRow_neF; first | assumption | (apply Ne.symm; assumption) | omega) | (apply At.extF; assumption))), by (repeat (first | exact Fr.refl _ _ | assumption | apply Fr.drewN | apply Fr.alloc | (apply Fr.transF; assumption) | (refine Fr.setRow ?_ _ (by first | exact Or.inr (by (first | omega | (simp; done) | (simp; omega))) | (exact Or.inl (by first | assumption | (simp; done)))))))⟩ ?_
  rintro w3 ⟨hdb3, hx3⟩
  have b3 := b2.step hx3
  have hml1 := b3.len.1
  have hlw3 := hdb3.lt
  refine go_litG (l := [.int .u32 (rw_ : Int), .int .u32 ((ms.length + 1 : Nat) : Int)]) rfl rfl (by decide) (by decide) rfl ?_
  have hx4 : Ext w3 (w3.alloc (.cells [Value.int .u32 (rw_ : Int), .int .u32 ((ms.length + 1 : Nat) : Int)].toArray 23)) := by (repeat (first | exact Fr.refl _ _ | assumption | apply Fr.drewN | apply Fr.alloc | (apply Fr.transF; assumption) | (refine Fr.setRow ?_ _ (by first | exact Or.inr (by (first | omega | (simp; done) | (simp; omega))) | (exact Or.inl (by first | assumption | (simp; done)))))))
  have hat4 := At.new w3 [Value.int .u32 (rw_ : Int), .int .u32 ((ms.length + 1 : Nat) : Int)] 23
  have hown4 : OwnN (w3.alloc (.cells [Value.int .u32 (rw_ : Int), .int .u32 ((ms.length + 1 : Nat) : Int)].toArray 23)) w3.heap.size (.slice (some ⟨w3.heap.size, 0, none⟩) 2 2) [rw_, ms.length + 1] := by
    unfold OwnN
    exact Own.of_block1 (C := []) rfl (Nat.le_refl _) (by simpa using hat4) (by simp [maxLen]) rfl
  have b4 := b3.step hx4
  repeat (first | refine sp ?_ | (refine is_load ?_; refine ld ?_) | (refine is_store ?_; refine sr ?_) | (refine is_alloc ?_; refine al ?_) | (refine is_box ?_; refine bx ?_) | (refine isl_load ?_; refine ldl ?_) | (refine isl_store ?_; refine srl ?_) | (refine isl_alloc ?_; refine all' ?_) | (refine isl_box ?_; refine bxl ?_))
  have hpl := b1.ars.ar.lt p b1.ars.ar.fpp
  have hplo := b1.ars.lof p b1.ars.ar.fpp
  have hlo0 := b1.lo0
  have hl3 := hx3.size
  obtain ⟨_, _, hsvE, _, hrc⟩ := Own.slice b4.own
  simp only [Value.slice.injEq] at hsvE
  obtain ⟨rfl, _, _⟩ := hsvE
  unfold OwnN at hown4
  refine go_appendG (r := ms.length) (by decide) rfl rfl rfl hown4 hrc (by simp) (by intro u hu; obtain ⟨_, _, rfl⟩ := List.mem_map.1 hu; rfl) (by simp [maxLen]; omega) (by simp; omega) hx4.size ?_
  intro v5 w5 ho5 hg5 _
  have hx5 : Ext w3 w5 := ext_grown hx4 (Nat.le_refl _) hown4 hg5
  obtain ⟨tl, htl⟩ : ∃ tl : List Nat, tl = rw_ :: (ms.length + 1) :: ms := ⟨_, rfl⟩
  have htn : tl.length = 2 + ms.length := by rw [htl]; simp; omega
  have ho5' : OwnN w5 w3.heap.size v5 tl := by
    unfold OwnN
    rw [htn, htl]
    exact ho5
  clear ho5
  obtain ⟨n, hn⟩ : ∃ n, n = tl.length := ⟨_, rfl⟩
  have hn62 : n ≤ 100 := by omega
  have htb : ∀ i ∈ tl, i < 4294967296 := by
    intro i hi
    rw [htl] at hi
    rcases List.mem_cons.1 hi with rfl | hi
    · omega
    rcases List.mem_cons.1 hi with rfl | hi
    · omega
    exact used_lt b1.ars.ar.wf (b1.us i hi)
  obtain ⟨st, ct, rfl, hct, _⟩ := Own.slice ho5'
  rw [← hn] at hct ⊢
  have hX25 : Ext w2 w5 := hx3.trans hx5
  have hdb5 := hdb3.ext hx5
  have hX5 : Ext w w5 := b3.ext.trans hx5
  have hl5 := hx5.size
  have hl25 := hX25.size
  have hsnd := b1.ars.snd
  have hwf := b1.ars.ar.wf
  have hcM := hwf.capM
  have ha5 := b3.ars.ar.ext hx5
  have hdl := dump_len hwf
  clear hrc hown4 b4 hx4 hat4 hg5 b2 hdb3
  generalize hdbe : w2.heap.size = db at *
  generalize hl3e : w3.heap.size = lw3 at *
  repeat (first | refine sp ?_ | (refine is_load ?_; refine ld ?_) | (refine is_store ?_; refine sr ?_) | (refine is_alloc ?_; refine al ?_) | (refine is_box ?_; refine bx ?_) | (refine isl_load ?_; refine ldl ?_) | (refine isl_store ?_; refine srl ?_) | (refine isl_alloc ?_; refine all' ?_) | (refine isl_box ?_; refine bxl ?_))
  refine go_loop (G := Nat × AR × Nat) [10] (fun ⟨k, _, _⟩ => [.int .i64 (k : Int)]) [(5, ptr p), (8, ptr db), (9, .slice st n ct)]
    (fun ⟨k, B, m⟩ w' => k ≤ n ∧ ArP w' lo p q B ∧ Rds A B m ∧ At w' db [.slice s1 A.dump.slots.length c1, .slice s2 A.dump.free.length c2] 31 ∧ OwnN w' lw3 (.slice st n ct) tl ∧ Fr (fun b => b = p) w5 w') (fun g => n - g.1) (0, A, 0) rfl ⟨rfl, rfl, rfl, trivial⟩ ⟨by omega, ha5, Rds.refl _ _, hdb5, by rw [hn]; exact ho5', Fr.refl _ _⟩ ?_
  rintro ⟨k, B, m⟩ w6 ⟨hk, ha6, hB6, hdb6, ho6, hf6⟩
  have hl6 := hf6.size
  have hd6 : DpB w6 w1.heap.size db (.agg ⟨[.slice s1 A.dump.slots.length c1, .slice s2 A.dump.free.length c2]⟩) A.dump := (hdB.fr hX25 fun _ _ _ => id).fr hf6 fun b hb _ e => by omega
  by_cases hlt : k < n
  · obtain ⟨mb, mo, est, hcell, _⟩ := OwnN.at ho6 (show k < tl.length by omega)
    subst est
    have hib := htb _ (List.getElem_mem (show k < tl.length by omega))
    have hmbl : lw3 ≤ mb ∧ mb < w6.heap.size := World.ownsRow.lt ho6 mb rfl
    generalize tl[k] = i at hcell hib
    by_cases hui : i = 0 ∨ A.used i = true
    · obtain ⟨t, hit, rfl, _, hsz⟩ := hsnd.tree i hui
      repeat (first | refine sp ?_ | (refine is_load ?_; refine ld ?_) | (refine is_store ?_; refine sr ?_) | (refine is_alloc ?_; refine al ?_) | (refine is_box ?_; refine bx ?_) | (refine isl_load ?_; refine ldl ?_) | (refine isl_store ?_; refine srl ?_) | (refine isl_alloc ?_; refine all' ?_) | (refine isl_box ?_; refine bxl ?_))
      refine go_drawE (Fr (fun _ => False) w6) 0 Try.follows (by kernel_rfl) (by kernel_rfl) (by kernel_rfl) ((Fr.refl _ _).drewN 1) ?_
      repeat (first | refine sp ?_ | (refine is_load ?_; refine ld ?_) | (refine is_store ?_; refine sr ?_) | (refine is_alloc ?_; refine al ?_) | (refine is_box ?_; refine bx ?_) | (refine isl_load ?_; refine ldl ?_) | (refine isl_store ?_; refine srl ?_) | (refine isl_alloc ?_; refine all' ?_) | (refine isl_box ?_; refine bxl ?_))
      have hx6d : Ext w6 (w6.drewN 1) := (Fr.refl _ _).drewN 1
      refine gol_call rfl rfl (c_ref7Check (w6.drewN 1) w1.heap.size _ A t hwf ((hd6.fr hx6d fun _ _ _ => id).dp (Nat.le_trans (by omega) hx6d.size)) hit hsz) ?_
      rintro _ w7 ⟨⟨E, rfl, hE⟩, hx7⟩
      replace hx7 : Ext w6 w7 := hx6d.trans hx7
      refine ⟨hx7, ?_⟩
      have ha7 := ha6.ext hx7
      have hit7 := hB6.inA hit
      have hBM := ha7.wf.capM
      have hM : ∀ a b, t.subs = a ++ b → SrtK a → a.length ≤ 1000000 := fun a b e hs => by have := hit7.hM ha7.wf a b e hs; omega
      have hH : t.ht ≤ 1000000 := by have := hit7.ht_le ha7.wf hsz; omega
      have hl7 := hx7.size
      have hcell7 := Fr.cell hx7 hcell id
      have hdb7 := hdb6.ext hx7
      repeat (first | refine sp ?_ | (refine is_load ?_; refine ld ?_) | (refine is_store ?_; refine sr ?_) | (refine is_alloc ?_; refine al ?_) | (refine is_box ?_; refine bx ?_) | (refine isl_load ?_; refine ldl ?_) | (refine isl_store ?_; refine srl ?_) | (refine isl_alloc ?_; refine all' ?_) | (refine isl_box ?_; refine bxl ?_))
      refine go_call rfl rfl (c_Measure w7 lo p q B t ha7 hit7 hsz hM hH) ?_
      rintro _ w8 ⟨⟨E2, hE2, rfl⟩, ⟨B8, n8, ha8, hB8⟩, hf8⟩
      obtain rfl : E2 = E := hE2.uniq hE
      have hl8 := hf8.size
      obtain ⟨z1, hz1⟩ : ∃ z, (if E2 = 0 then (t.sz : Int) else 0) = z := ⟨_, rfl⟩
      obtain ⟨z2, hz2⟩ : ∃ z, (if E2 = 0 then (t.ht : Int) else 0) = z := ⟨_, rfl⟩
      rw [hz1, hz2]
      have hcell8 := Fr.cell hf8 hcell7 (show ¬ mb = p by omega)
      have hdb8 := hdb7.fr hf8 (by omega)
      repeat (first | refine sp ?_ | (refine is_load ?_; refine ld ?_) | (refine is_store ?_; refine sr ?_) | (refine is_alloc ?_; refine al ?_) | (refine is_box ?_; refine bx ?_) | (refine isl_load ?_; refine ldl ?_) | (refine isl_store ?_; refine srl ?_) | (refine isl_alloc ?_; refine all' ?_) | (refine isl_box ?_; refine bxl ?_))
      refine go_name (F := fun w9 => At w9 w8.heap.size [.int .i64 z1, .int .i64 z2] 36 ∧ Ext w8 w9) ⟨by (repeat (first | assumption | (refine At.new' (by (first | omega | (simp; done) | (simp; omega))) _ _) | apply At.alloc | apply At.drewN | apply At.setRow | (apply At.setRow_neF; first | assumption | (apply Ne.symm; assumption) | omega) | (apply At.extF; assumption))), by (repeat (first | exact Fr.refl _ _ | assumption | apply Fr.drewN | apply Fr.alloc | (apply Fr.transF; assumption) | (refine Fr.setRow ?_ _ (by first | exact Or.inr (by (first | omega | (simp; done) | (simp; omega))) | (exact Or.inl (by first | assumption | (simp; done)))))))⟩ ?_
      rintro w9 ⟨hs9, hx9⟩
      have hl9 := hx9.size
      have hs9l := hs9.lt
      have hcell9 := Fr.cell hx9 hcell8 id
      repeat (first | refine sp ?_ | (refine is_load ?_; refine ld ?_) | (refine is_store ?_; refine sr ?_) | (refine is_alloc ?_; refine al ?_) | (refine is_box ?_; refine bx ?_) | (refine isl_load ?_; refine ldl ?_) | (refine isl_store ?_; refine srl ?_) | (refine isl_alloc ?_; refine all' ?_) | (refine isl_box ?_; refine bxl ?_))
      refine go_call rfl rfl (c_SCheck w9 lo p q B8 t (ha8.ext hx9) (hB8.inA hit7) hsz hM hH) ?_
      rintro _ w10 ⟨⟨E3, rfl, hE3⟩, ⟨B10, n10, ha10, hB10⟩, hf10⟩
      obtain rfl : E3 = E2 := hE3.uniq hE
      have hl10 := hf10.size
      have hF10 : Fr (fun b => b = p) w6 w10 := (((Fr.of_ext hx7).trans hf8).trans (Fr.of_ext hx9)).trans hf10
      have hs10 := hs9.fr hf10 (by omega)
      have hcell10 := Fr.cell hF10 hcell (show ¬ mb = p by omega)
      have hdb10 := hdb6.fr hF10 (by omega)
      have ho10 : OwnN w10 lw3 (.slice (some ⟨mb, mo, none⟩) n ct) tl := Own.of_heap ho6 fun b hb => hF10.block b (World.ownsRow.lt ho6 b hb).2 (by have := (World.ownsRow.lt ho6 b hb).1; omega)
      have hd10 := hd6.fr hF10 fun b hb _ e => by omega
      replace hB10 : Rds A B10 _ := (hB6.trans hB8).trans hB10
      by_cases hE0 : E3 = 0
      · subst hE0
        by_cases h0 : t.root = 0
        · have ht0 := hit.root0 h0
          have hz10 : z1 = 0 := by rw [← hz1, ht0]; rfl
          have hz20 : z2 = 0 := by rw [← hz2, ht0]; rfl
          rw [h0] at hcell10
          rw [hz10, hz20] at hs10
          repeat (first | refine sp ?_ | (refine is_load ?_; refine ld ?_) | (refine is_store ?_; refine sr ?_) | (refine is_alloc ?_; refine al ?_) | (refine is_box ?_; refine bx ?_) | (refine isl_load ?_; refine ldl ?_) | (refine isl_store ?_; refine srl ?_) | (refine isl_alloc ?_; refine all' ?_) | (refine isl_box ?_; refine bxl ?_))
          refine go_name (F := fun w11 => At w11 w10.heap.size [.int .i64 0, .int .i64 0] 36 ∧ Ext w10 w11) ⟨by (repeat (first | assumption | (refine At.new' (by (first | omega | (simp; done) | (simp; omega))) _ _) | apply At.alloc | apply At.drewN | apply At.setRow | (apply At.setRow_neF; first | assumption | (apply Ne.symm; assumption) | omega) | (apply At.extF; assumption))), by (repeat (first | exact Fr.refl _ _ | assumption | apply Fr.drewN | apply Fr.alloc | (apply Fr.transF; assumption) | (refine Fr.setRow ?_ _ (by first | exact Or.inr (by (first | omega | (simp; done) | (simp; omega))) | (exact Or.inl (by first | assumption | (simp; done)))))))⟩ ?_
          rintro w11 ⟨hq11, hx11⟩
          have hcell11 := Fr.cell hx11 hcell10 id
          have hs11 := hs10.ext hx11
          repeat (first | refine sp ?_ | (refine is_load ?_; refine ld ?_) | (refine is_store ?_; refine sr ?_) | (refine is_alloc ?_; refine al ?_) | (refine is_box ?_; refine bx ?_) | (refine isl_load ?_; refine ldl ?_) | (refine isl_store ?_; refine srl ?_) | (refine isl_alloc ?_; refine all' ?_) | (refine isl_box ?_; refine bxl ?_))
          refine go_as 101 (u' := .bool false) rfl (by simp [eqL]) ?_
          refine go_name (F := fun wz => Ext w10 wz) (by (repeat (first | exact Fr.refl _ _ | assumption | apply Fr.drewN | apply Fr.alloc | (apply Fr.transF; assumption) | (refine Fr.setRow ?_ _ (by first | exact Or.inr (by (first | omega | (simp; done) | (simp; omega))) | (exact Or.inl (by first | assumption | (simp; done)))))))) ?_
          rintro wz hxz
          repeat (first | refine sp ?_ | (refine is_load ?_; refine ld ?_) | (refine is_store ?_; refine sr ?_) | (refine is_alloc ?_; refine al ?_) | (refine is_box ?_; refine bx ?_) | (refine isl_load ?_; refine ldl ?_) | (refine isl_store ?_; refine srl ?_) | (refine isl_alloc ?_; refine all' ?_) | (refine isl_box ?_; refine bxl ?_))
          exact go_stop (G := Nat × AR × Nat) (k + 1, B10, _) rfl ⟨rfl, rfl, rfl, trivial⟩ ⟨hlt, ha10.ext hxz, hB10, hdb10.ext hxz, OwnN.ext ho10 hxz, hf6.trans (hF10.trans (Fr.of_ext hxz))⟩ (by show n - (k + 1) < n - k; omega)
        · have hz10 : z1 = (t.sz : Int) := by rw [← hz1]; rfl
          have hz20 : z2 = (t.ht : Int) := by rw [← hz2]; rfl
          rw [hz10, hz20] at hs10
          have hur := hit.used h0
          obtain ⟨u1, u2⟩ := used_le hwf hur
          obtain ⟨j, hj⟩ : ∃ j, t.root = j + 1 := ⟨t.root - 1, by omega⟩
          repeat (first | refine sp ?_ | (refine is_load ?_; refine ld ?_) | (refine is_store ?_; refine sr ?_) | (refine is_alloc ?_; refine al ?_) | (refine is_box ?_; refine bx ?_) | (refine isl_load ?_; refine ldl ?_) | (refine isl_store ?_; refine srl ?_) | (refine isl_alloc ?_; refine all' ?_) | (refine isl_box ?_; refine bxl ?_))
          refine go_name (F := fun w11 => At w11 w10.heap.size [.int .i64 0, .int .i64 0] 36 ∧ Ext w10 w11) ⟨by (repeat (first | assumption | (refine At.new' (by (first | omega | (simp; done) | (simp; omega))) _ _) | apply At.alloc | apply At.drewN | apply At.setRow | (apply At.setRow_neF; first | assumption | (apply Ne.symm; assumption) | omega) | (apply At.extF; assumption))), by (repeat (first | exact Fr.refl _ _ | assumption | apply Fr.drewN | apply Fr.alloc | (apply Fr.transF; assumption) | (refine Fr.setRow ?_ _ (by first | exact Or.inr (by (first | omega | (simp; done) | (simp; omega))) | (exact Or.inl (by first | assumption | (simp; done)))))))⟩ ?_
          rintro w11 ⟨hq11, hx11⟩
          have hd11 := (hd10.fr hx11 fun _ _ _ => id).dp (by have := hx11.size; omega)
          have hdA := hd11
          obtain ⟨sv1, fv1, ee, hs1, _⟩ := hd11
          simp only [Value.agg.injEq, Array.mk.injEq, List.cons.injEq, and_true] at ee
          obtain ⟨rfl, rfl⟩ := ee
          have hjl : j < A.dump.slots.length := by rw [dump_slots]; omega
          obtain ⟨bb, oo, e, _, hcs⟩ := hs1.up.at (m := 11) slt_len (by omega) hjl
          subst e
          have hget : A.dump.slots[j] = A.slt (j + 1) := by
            have := dump_get (A := A) (show j < A.cap by omega)
            rw [List.getElem?_eq_getElem hjl] at this
            exact Option.some.inj this
          have hsz2 : (A.node (j + 1)).size = (t.sz : Int) := by
            have := hit.size hsz
            unfold szOf at this
            rw [if_neg h0, hj] at this
            exact this
          have hcl : w11.cell? ⟨bb, oo + j * 11 + 3 + 4, none⟩ = some (.int .i64 (t.sz : Int)) := by
            have := hcs 7 (.int .i64 (A.dump.slots[j]).nd.size) rfl
            rw [hget] at this
            have e2 : (A.slt (j + 1)).nd.size = (t.sz : Int) := hsz2
            rw [e2] at this
            exact this
          have hs11 := hs10.ext hx11
          have hdb11 := hdb10.ext hx11
          have hcell11 := Fr.cell hx11 hcell10 id
          repeat (first | refine sp ?_ | (refine is_load ?_; refine ld ?_) | (refine is_store ?_; refine sr ?_) | (refine is_alloc ?_; refine al ?_) | (refine is_box ?_; refine bx ?_) | (refine isl_load ?_; refine ldl ?_) | (refine isl_store ?_; refine srl ?_) | (refine isl_alloc ?_; refine all' ?_) | (refine isl_box ?_; refine bxl ?_))
          refine go_drawE (Fr (fun _ => False) w11) 1 Try.follows (by kernel_rfl) (by kernel_rfl) (by kernel_rfl) ((Fr.refl _ _).drewN 1) ?_
          repeat (first | refine sp ?_ | (refine is_load ?_; refine ld ?_) | (refine is_store ?_; refine sr ?_) | (refine is_alloc ?_; refine al ?_) | (refine is_box ?_; refine bx ?_) | (refine isl_load ?_; refine ldl ?_) | (refine isl_store ?_; refine srl ?_) | (refine isl_alloc ?_; refine all' ?_) | (refine isl_box ?_; refine bxl ?_))
          refine go_as 87 (u' := .int .u32 (j : Int)) rfl (by congr 1; omega) ?_
          repeat (first | refine sp ?_ | (refine is_load ?_; refine ld ?_) | (refine is_store ?_; refine sr ?_) | (refine is_alloc ?_; refine al ?_) | (refine is_box ?_; refine bx ?_) | (refine isl_load ?_; refine ldl ?_) | (refine isl_store ?_; refine srl ?_) | (refine isl_alloc ?_; refine all' ?_) | (refine isl_box ?_; refine bxl ?_))
          have hx11d : Ext w11 (w11.drewN 1) := (Fr.refl _ _).drewN 1
          refine gol_call rfl rfl (c_ref7Height t (w11.drewN 1) w1.heap.size _ A hwf (hdA.ext hx11d) hit hH) ?_
          rintro _ w12 ⟨rfl, hx12⟩
          replace hx12 : Ext w11 w12 := hx11d.trans hx12
          refine ⟨hx12, ?_⟩
          have hs12 := hs11.ext hx12
          have hq12 := hq11.ext hx12
          have hq12l := hq12.lt
          have hx1012 : Ext w10 w12 := hx11.trans hx12
          repeat (first | refine sp ?_ | (refine is_load ?_; refine ld ?_) | (refine is_store ?_; refine sr ?_) | (refine is_alloc ?_; refine al ?_) | (refine is_box ?_; refine bx ?_) | (refine isl_load ?_; refine ldl ?_) | (refine isl_store ?_; refine srl ?_) | (refine isl_alloc ?_; refine all' ?_) | (refine isl_box ?_; refine bxl ?_))
          refine go_as 101 (u' := .bool false) rfl (by simp [eqL]) ?_
          refine go_name (F := fun wz => Ext w10 wz) (by (repeat (first | exact Fr.refl _ _ | assumption | apply Fr.drewN | apply Fr.alloc | (apply Fr.transF; assumption) | (refine Fr.setRow ?_ _ (by first | exact Or.inr (by (first | omega | (simp; done) | (simp; omega))) | (exact Or.inl (by first | assumption | (simp; done)))))))) ?_
          rintro wz hxz
          repeat (first | refine sp ?_ | (refine is_load ?_; refine ld ?_) | (refine is_store ?_; refine sr ?_) | (refine is_alloc ?_; refine al ?_) | (refine is_box ?_; refine bx ?_) | (refine isl_load ?_; refine ldl ?_) | (refine isl_store ?_; refine srl ?_) | (refine isl_alloc ?_; refine all' ?_) | (refine isl_box ?_; refine bxl ?_))
          exact go_stop (G := Nat × AR × Nat) (k + 1, B10, _) rfl ⟨rfl, rfl, rfl, trivial⟩ ⟨hlt, ha10.ext hxz, hB10, hdb10.ext hxz, OwnN.ext ho10 hxz, hf6.trans (hF10.trans (Fr.of_ext hxz))⟩ (by show n - (k + 1) < n - k; omega)
      · have hz10 : z1 = 0 := by rw [← hz1, if_neg hE0]
        have hz20 : z2 = 0 := by rw [← hz2, if_neg hE0]
        rw [hz10, hz20] at hs10
        repeat (first | refine sp ?_ | (refine is_load ?_; refine ld ?_) | (refine is_store ?_; refine sr ?_) | (refine is_alloc ?_; refine al ?_) | (refine is_box ?_; refine bx ?_) | (refine isl_load ?_; refine ldl ?_) | (refine isl_store ?_; refine srl ?_) | (refine isl_alloc ?_; refine all' ?_) | (refine isl_box ?_; refine bxl ?_))
        refine go_as 101 (u' := .bool false) rfl (by simp [eqL]) ?_
        refine go_name (F := fun wz => Ext w10 wz) (by (repeat (first | exact Fr.refl _ _ | assumption | apply Fr.drewN | apply Fr.alloc | (apply Fr.transF; assumption) | (refine Fr.setRow ?_ _ (by first | exact Or.inr (by (first | omega | (simp; done) | (simp; omega))) | (exact Or.inl (by first | assumption | (simp; done)))))))) ?_
        rintro wz hxz
        repeat (first | refine sp ?_ | (refine is_load ?_; refine ld ?_) | (refine is_store ?_; refine sr ?_) | (refine is_alloc ?_; refine al ?_) | (refine is_box ?_; refine bx ?_) | (refine isl_load ?_; refine ldl ?_) | (refine isl_store ?_; refine srl ?_) | (refine isl_alloc ?_; refine all' ?_) | (refine isl_box ?_; refine bxl ?_))
        exact go_stop (G := Nat × AR × Nat) (k + 1, B10, _) rfl ⟨rfl, rfl, rfl, trivial⟩ ⟨hlt, ha10.ext hxz, hB10, hdb10.ext hxz, OwnN.ext ho10 hxz, hf6.trans (hF10.trans (Fr.of_ext hxz))⟩ (by show n - (k + 1) < n - k; omega)
    · have h0 : i ≠ 0 := fun e => hui (Or.inl e)
      have hu : A.used i = false := by
        cases e : A.used i with
        | false => rfl
        | true => exact absurd (Or.inr e) hui
      have huB : B.used i = false := by rw [hB6.used]; exact hu
      repeat (first | refine sp ?_ | (refine is_load ?_; refine ld ?_) | (refine is_store ?_; refine sr ?_) | (refine is_alloc ?_; refine al ?_) | (refine is_box ?_; refine bx ?_) | (refine isl_load ?_; refine ldl ?_) | (refine isl_store ?_; refine srl ?_) | (refine isl_alloc ?_; refine all' ?_) | (refine isl_box ?_; refine bxl ?_))
      refine go_drawE (Fr (fun _ => False) w6) 0 Try.follows (by kernel_rfl) (by kernel_rfl) (by kernel_rfl) ((Fr.refl _ _).drewN 1) ?_
      repeat (first | refine sp ?_ | (refine is_load ?_; refine ld ?_) | (refine is_store ?_; refine sr ?_) | (refine is_alloc ?_; refine al ?_) | (refine is_box ?_; refine bx ?_) | (refine isl_load ?_; refine ldl ?_) | (refine isl_store ?_; refine srl ?_) | (refine isl_alloc ?_; refine all' ?_) | (refine isl_box ?_; refine bxl ?_))
      have hx6d : Ext w6 (w6.drewN 1) := (Fr.refl _ _).drewN 1
      refine gol_call rfl rfl (c_ref7CheckBad (w6.drewN 1) w1.heap.size _ A i hwf ((hd6.fr hx6d fun _ _ _ => id).dp (Nat.le_trans (by omega) hx6d.size)) h0 hu hib) ?_
      rintro _ w7 ⟨rfl, hx7⟩
      replace hx7 : Ext w6 w7 := hx6d.trans hx7
      refine ⟨hx7, ?_⟩
      have ha7 := ha6.ext hx7
      have hl7 := hx7.size
      have hcell7 := Fr.cell hx7 hcell id
      have hdb7 := hdb6.ext hx7
      repeat (first | refine sp ?_ | (refine is_load ?_; refine ld ?_) | (refine is_store ?_; refine sr ?_) | (refine is_alloc ?_; refine al ?_) | (refine is_box ?_; refine bx ?_) | (refine isl_load ?_; refine ldl ?_) | (refine isl_store ?_; refine srl ?_) | (refine isl_alloc ?_; refine all' ?_) | (refine isl_box ?_; refine bxl ?_))
      refine go_call rfl rfl (c_MeasureBad w7 lo p q B i ha7 h0 huB hib) ?_
      rintro _ w8 ⟨rfl, ha8, hf8⟩
      have hl8 := hf8.size
      have hcell8 := Fr.cell hf8 hcell7 (show ¬ mb = p by omega)
      have hdb8 := hdb7.fr hf8 (by omega)
      repeat (first | refine sp ?_ | (refine is_load ?_; refine ld ?_) | (refine is_store ?_; refine sr ?_) | (refine is_alloc ?_; refine al ?_) | (refine is_box ?_; refine bx ?_) | (refine isl_load ?_; refine ldl ?_) | (refine isl_store ?_; refine srl ?_) | (refine isl_alloc ?_; refine all' ?_) | (refine isl_box ?_; refine bxl ?_))
      refine go_name (F := fun w9 => At w9 w8.heap.size [.int .i64 0, .int .i64 0] 36 ∧ Ext w8 w9) ⟨by (repeat (first | assumption | (refine At.new' (by (first | omega | (simp; done) | (simp; omega))) _ _) | apply At.alloc | apply At.drewN | apply At.setRow | (apply At.setRow_neF; first | assumption | (apply Ne.symm; assumption) | omega) | (apply At.extF; assumption))), by (repeat (first | exact Fr.refl _ _ | assumption | apply Fr.drewN | apply Fr.alloc | (apply Fr.transF; assumption) | (refine Fr.setRow ?_ _ (by first | exact Or.inr (by (first | omega | (simp; done) | (simp; omega))) | (exact Or.inl (by first | assumption | (simp; done)))))))⟩ ?_
      rintro w9 ⟨hs9, hx9⟩
      have hl9 := hx9.size
      have hs9l := hs9.lt
      have huB2 : (B.read i).used i = false := by rw [(Rds.read B i).used]; exact huB
      have hcell9 := Fr.cell hx9 hcell8 id
      repeat (first | refine sp ?_ | (refine is_load ?_; refine ld ?_) | (refine is_store ?_; refine sr ?_) | (refine is_alloc ?_; refine al ?_) | (refine is_box ?_; refine bx ?_) | (refine isl_load ?_; refine ldl ?_) | (refine isl_store ?_; refine srl ?_) | (refine isl_alloc ?_; refine all' ?_) | (refine isl_box ?_; refine bxl ?_))
      refine go_call rfl rfl (c_SCheckBad w9 lo p q (B.read i) i (ha8.ext hx9) h0 huB2 hib) ?_
      rintro _ w10 ⟨rfl, ha10, hf10⟩
      have hl10 := hf10.size
      have hF10 : Fr (fun b => b = p) w6 w10 := (((Fr.of_ext hx7).trans hf8).trans (Fr.of_ext hx9)).trans hf10
      have hs10 := hs9.fr hf10 (by omega)
      have hcell10 := Fr.cell hF10 hcell (show ¬ mb = p by omega)
      have hdb10 := hdb6.fr hF10 (by omega)
      have ho10 : OwnN w10 lw3 (.slice (some ⟨mb, mo, none⟩) n ct) tl := Own.of_heap ho6 fun b hb => hF10.block b (World.ownsRow.lt ho6 b hb).2 (by have := (World.ownsRow.lt ho6 b hb).1; omega)
      have hB10 : Rds A ((B.read i).read i) _ := (hB6.trans (Rds.read B i)).trans (Rds.read (B.read i) i)
      generalize (B.read i).read i = B10 at hB10 ha10
      repeat (first | refine sp ?_ | (refine is_load ?_; refine ld ?_) | (refine is_store ?_; refine sr ?_) | (refine is_alloc ?_; refine al ?_) | (refine is_box ?_; refine bx ?_) | (refine isl_load ?_; refine ldl ?_) | (refine isl_store ?_; refine srl ?_) | (refine isl_alloc ?_; refine all' ?_) | (refine isl_box ?_; refine bxl ?_))
      refine go_as 101 (u' := .bool false) rfl (by simp [eqL]) ?_
      refine go_name (F := fun wz => Ext w10 wz) (by (repeat (first | exact Fr.refl _ _ | assumption | apply Fr.drewN | apply Fr.alloc | (apply Fr.transF; assumption) | (refine Fr.setRow ?_ _ (by first | exact Or.inr (by (first | omega | (simp; done) | (simp; omega))) | (exact Or.inl (by first | assumption | (simp; done)))))))) ?_
      rintro wz hxz
      repeat (first | refine sp ?_ | (refine is_load ?_; refine ld ?_) | (refine is_store ?_; refine sr ?_) | (refine is_alloc ?_; refine al ?_) | (refine is_box ?_; refine bx ?_) | (refine isl_load ?_; refine ldl ?_) | (refine isl_store ?_; refine srl ?_) | (refine isl_alloc ?_; refine all' ?_) | (refine isl_box ?_; refine bxl ?_))
      exact go_stop (G := Nat × AR × Nat) (k + 1, B10, _) rfl ⟨rfl, rfl, rfl, trivial⟩ ⟨hlt, ha10.ext hxz, hB10, hdb10.ext hxz, OwnN.ext ho10 hxz, hf6.trans (hF10.trans (Fr.of_ext hxz))⟩ (by show n - (k + 1) < n - k; omega)
  · obtain rfl : k = n := by omega
    repeat (first | refine sp ?_ | (refine is_load ?_; refine ld ?_) | (refine is_store ?_; refine sr ?_) | (refine is_alloc ?_; refine al ?_) | (refine is_box ?_; refine bx ?_) | (refine isl_load ?_; refine ldl ?_) | (refine isl_store ?_; refine srl ?_) | (refine isl_alloc ?_; refine all' ?_) | (refine isl_box ?_; refine bxl ?_))
    refine go_drawE (Fr (fun _ => False) w6) 0 Try.follows (by kernel_rfl) (by kernel_rfl) (by kernel_rfl) ((Fr.refl _ _).drewN 1) ?_
    repeat (first | refine sp ?_ | (refine is_load ?_; refine ld ?_) | (refine is_store ?_; refine sr ?_) | (refine is_alloc ?_; refine al ?_) | (refine is_box ?_; refine bx ?_) | (refine isl_load ?_; refine ldl ?_) | (refine isl_store ?_; refine srl ?_) | (refine isl_alloc ?_; refine all' ?_) | (refine isl_box ?_; refine bxl ?_))
    have hx6d : Ext w6 (w6.drewN 1) := (Fr.refl _ _).drewN 1
    refine gol_call rfl rfl (p_Dump (w6.drewN 1) lo p q B (ha6.ext hx6d)) ?_
    rintro _ w7 ⟨hd7, hx7⟩
    replace hx7 : Ext w6 w7 := hx6d.trans hx7
    refine ⟨hx7, ?_⟩
    rw [hB6.dumpE] at hd7
    have hd7' := hd7
    obtain ⟨sy, cy, sz, cz, rfl, _, _⟩ := hd7'.b
    have hdA := (hd6.fr hx7 fun _ _ _ => id).dp (by have := hx7.size; omega)
    repeat (first | refine sp ?_ | (refine is_load ?_; refine ld ?_) | (refine is_store ?_; refine sr ?_) | (refine is_alloc ?_; refine al ?_) | (refine is_box ?_; refine bx ?_) | (refine isl_load ?_; refine ldl ?_) | (refine isl_store ?_; refine srl ?_) | (refine isl_alloc ?_; refine all' ?_) | (refine isl_box ?_; refine bxl ?_))
    refine gol_call rfl rfl (c_SameDump w7 _ _ _ _ A.dump hd7 hdA hdl.1 hdl.2) ?_
    rintro _ w8 ⟨rfl, hx8⟩
    refine ⟨hx7.trans hx8, ?_⟩
    repeat (first | refine sp ?_ | (refine is_load ?_; refine ld ?_) | (refine is_store ?_; refine sr ?_) | (refine is_alloc ?_; refine al ?_) | (refine is_box ?_; refine bx ?_) | (refine isl_load ?_; refine ldl ?_) | (refine isl_store ?_; refine srl ?_) | (refine isl_alloc ?_; refine all' ?_) | (refine isl_box ?_; refine bxl ?_))
    exact go_ret1 rfl rfl ⟨_, rfl, rfl, ((hX5.trans' hf6 fun b hb e => by omega).trans hx7).trans hx8⟩

end Go.Proofs.Ytfaeboamjfdjlaa
