/-
  Slim trees: as few keys as a height allows.
-/
import Derived.Test.YtgafapifpoinlaaSe
import Derived.Test.YtgafapifpoinlaaPg
set_option linter.unusedVariables false
namespace Go.Proofs.Ytgafapifpoinlaa
open Go.Vc

def sq (a : Int) (n : Nat) : List (Int × Int) := (List.range n).map fun j : Nat => (a + (j : Int), (0 : Int))
theorem sq_len (a : Int) (n : Nat) : (sq a n).length = n := by simp [sq]
theorem sq_succ (a : Int) (n : Nat) : sq a (n + 1) = sq a n ++ [(a + (n : Int), 0)] := by simp [sq, List.range_succ]
theorem sq_app (a : Int) (m : Nat) : ∀ n, sq a (m + 1 + n) = sq a m ++ (a + (m : Int), 0) :: sq (a + (m : Int) + 1) n
  | 0 => by rw [Nat.add_zero, sq_succ]; rfl
  | n + 1 => by
    rw [show m + 1 + (n + 1) = (m + 1 + n) + 1 by omega, sq_succ, sq_app a m n, sq_succ, List.append_assoc, List.cons_append]
    congr 4
    simp only [Prod.mk.injEq, and_true]; omega
theorem sq_srt (a : Int) (n : Nat) : Srt (sq a n) := by
  unfold sq Srt
  rw [List.pairwise_map]
  exact List.pairwise_lt_range.imp fun h => by simp; omega

def mk (h : Nat) : Nat := (wt h - 1).toNat
def rs (h : Nat) : Nat := ((wt h + 2) / 3 - 1).toNat
theorem mk_z (h : Nat) : (mk h : Int) = wt h - 1 := by have := wt_pos h; unfold mk; omega
theorem rs_z (h : Nat) : (rs h : Int) = (wt h + 2) / 3 - 1 := by have := wt_pos h; unfold rs; omega
theorem mk_succ (h : Nat) : mk (h + 1) = mk h + 1 + rs h := by
  have := wt_pos h
  have e : wt (h + 1) = wt h + (wt h + 2) / 3 := rfl
  unfold mk rs; omega
theorem wt_14 : wt 14 = 115 := by decide +kernel
theorem wt14 {h : Nat} (hh : h ≤ 14) : wt h ≤ 115 := by have := wt_mono hh; rw [wt_14] at this; exact this
theorem minKeys_n (h : Nat) (hh : h ≤ 80) : minKeys (h : Int) = wt h - 1 := by
  unfold minKeys
  rw [if_neg (by omega)]; rfl

theorem Own.rdF {α : Type} {w : World} {lo : Nat} {e : TypeId} {m n : Nat} {v : Value} {enc : α → List Value} {xs : List α} {S : Nat → Prop} (h : Own w lo e m v n (xs.flatMap enc)) (hn : n = xs.length) (hS : ∀ b, S b → b < lo) : RdF w S v enc xs := by
  obtain ⟨sa, cap, e, hc, hr, hb⟩ := h.rd hn
  exact ⟨sa, cap, e, hc, hr, fun b o e hx => ⟨(hb b o e hx).2, fun h => by have := (hb b o e hx).1; have := hS b h; omega⟩⟩

set_option maxHeartbeats 8000000 in
theorem c_slim : ∀ (h : Nat) (first : Int) (w : World) (lo p : Nat) (q : AP) (A : AR), h ≤ 14 → (0 ≤ first ∧ first ≤ 1000) → ArP w lo p q A → A.rel = [] → A.fresh + mk h ≤ A.cap → lo ≤ w.heap.size → (∀ b, q.fp b → lo ≤ b) →
    Calls Try.prog 49 [ptr p, .int .i64 first, .int .i64 (h : Int)].toArray w (Ret fun r w' => ∃ (B : AR) (t : Tr) (q' : AP), r = .tuple #[.int .u32 (t.root : Int), .int .i64 (first + (mk h : Int)), .bool true] ∧ ArP w' lo p q' B ∧ Plt A B t (sq first (mk h)) ∧ t.ht = h ∧ Gr q q' w w')
  | 0, first, w, lo, p, q, A, hh, hf, ha, hrel, hcap, hlo, hq => by
    refine calls_go Try.func49 rfl Try.ntmps49 (Nat.le_of_ble_eq_true rfl) ?_
    repeat (first | refine sp ?_ | (refine is_load ?_; refine ld ?_) | (refine is_store ?_; refine sr ?_) | (refine is_alloc ?_; refine al ?_) | (refine is_box ?_; refine bx ?_) | (refine isl_load ?_; refine ldl ?_) | (refine isl_store ?_; refine srl ?_) | (refine isl_alloc ?_; refine all' ?_) | (refine isl_box ?_; refine bxl ?_))
    exact go_ret3 rfl rfl rfl rfl ⟨_, rfl, A, .nil, q, by rw [show mk 0 = 0 from rfl]; simp; rfl, ha, Plt.nil hrel, rfl, Gr.refl _ _⟩
  | h + 1, first, w, lo, p, q, A, hh, hf, ha, hrel, hcap, hlo, hq => by
    have hms := mk_succ h
    have hmz := mk_z h
    have hmz1 := mk_z (h + 1)
    have hrz := rs_z h
    have hw1 := wt_pos h
    have hw2 := wt14 (show h ≤ 14 by omega)
    have hw3 := wt14 hh
    have hn1 := minKeys_n (h + 1) (by omega)
    have hn0 := minKeys_n h (by omega)
    refine calls_go Try.func49 rfl Try.ntmps49 (Nat.le_of_ble_eq_true rfl) ?_
    repeat (first | refine sp ?_ | (refine is_load ?_; refine ld ?_) | (refine is_store ?_; refine sr ?_) | (refine is_alloc ?_; refine al ?_) | (refine is_box ?_; refine bx ?_) | (refine isl_load ?_; refine ldl ?_) | (refine isl_store ?_; refine srl ?_) | (refine isl_alloc ?_; refine all' ?_) | (refine isl_box ?_; refine bxl ?_))
    refine go_as 26 (u' := .int .i64 (h : Int)) rfl (by congr 1; omega) ?_
    refine go_call rfl rfl (c_slim h first w lo p q A (by omega) hf ha hrel (by omega) hlo hq) ?_
    rintro _ w1 ⟨B, tl, q1, rfl, ha1, hp1, hht, gr1⟩
    repeat (first | refine sp ?_ | (refine is_load ?_; refine ld ?_) | (refine is_store ?_; refine sr ?_) | (refine is_alloc ?_; refine al ?_) | (refine is_box ?_; refine bx ?_) | (refine isl_load ?_; refine ldl ?_) | (refine isl_store ?_; refine srl ?_) | (refine isl_alloc ?_; refine all' ?_) | (refine isl_box ?_; refine bxl ?_))
    refine go_call rfl rfl (c_refMinKeys ((h + 1 : Nat) : Int) w1) ?_
    rintro _ w2 ⟨rfl, hx2⟩
    rw [hn1]
    repeat (first | refine sp ?_ | (refine is_load ?_; refine ld ?_) | (refine is_store ?_; refine sr ?_) | (refine is_alloc ?_; refine al ?_) | (refine is_box ?_; refine bx ?_) | (refine isl_load ?_; refine ldl ?_) | (refine isl_store ?_; refine srl ?_) | (refine isl_alloc ?_; refine all' ?_) | (refine isl_box ?_; refine bxl ?_))
    refine go_as 36 (u' := .int .i64 (h : Int)) rfl (by congr 1; omega) ?_
    refine go_call rfl rfl (c_refMinKeys (h : Int) w2) ?_
    rintro _ w3 ⟨rfl, hx3⟩
    rw [hn0]
    repeat (first | refine sp ?_ | (refine is_load ?_; refine ld ?_) | (refine is_store ?_; refine sr ?_) | (refine is_alloc ?_; refine al ?_) | (refine is_box ?_; refine bx ?_) | (refine isl_load ?_; refine ldl ?_) | (refine isl_store ?_; refine srl ?_) | (refine isl_alloc ?_; refine all' ?_) | (refine isl_box ?_; refine bxl ?_))
    refine go_as 12 (u' := .int .i64 (rs h : Int)) rfl (by congr 1; omega) ?_
    have hx3' := hx2.trans hx3
    have hr14 : rs h ≤ 114 := by omega
    have hk14 : mk h ≤ 114 := by omega
    obtain ⟨K, hK⟩ : ∃ K : Int, first + (mk h : Int) = K := ⟨_, rfl⟩
    rw [hK]
    obtain ⟨L, hL0⟩ : ∃ L : Nat, tl.root = L := ⟨_, rfl⟩
    rw [hL0]
    repeat (first | refine sp ?_ | (refine is_load ?_; refine ld ?_) | (refine is_store ?_; refine sr ?_) | (refine is_alloc ?_; refine al ?_) | (refine is_box ?_; refine bx ?_) | (refine isl_load ?_; refine ldl ?_) | (refine isl_store ?_; refine srl ?_) | (refine isl_alloc ?_; refine all' ?_) | (refine isl_box ?_; refine bxl ?_))
    refine go_loop (G := Nat × Value) [13, 14] (fun ⟨j, v⟩ => [v, .int .i64 (j : Int)]) [(0, ptr p), (9, .int .u32 (L : Int)), (10, .int .i64 K), (12, .int .i64 (rs h : Int))]
      (fun ⟨j, v⟩ w' => j ≤ rs h ∧ Ext w3 w' ∧ OwnE w' w3.heap.size v (sq (K + 1) j)) (fun g => rs h - g.1) (0, .slice none 0 0) rfl ⟨rfl, rfl, rfl, rfl, trivial⟩ ⟨by omega, by (repeat (first | exact Fr.refl _ _ | assumption | apply Fr.drewN | apply Fr.alloc | (apply Fr.transF; assumption) | (refine Fr.setRow ?_ _ (by first | exact Or.inr (by (first | omega | (simp; done) | (simp; omega))) | (exact Or.inl (by first | assumption | (simp; done))))))), Own.nil _ _ _ _⟩ ?_
    rintro ⟨j, v⟩ w4 ⟨hj, hx4, ho4⟩
    have hs4 := hx4.size
    by_cases hlt : j < rs h
    · unfold OwnE at ho4
      rw [sq_len] at ho4
      repeat (first | refine sp ?_ | (refine is_load ?_; refine ld ?_) | (refine is_store ?_; refine sr ?_) | (refine is_alloc ?_; refine al ?_) | (refine is_box ?_; refine bx ?_) | (refine isl_load ?_; refine ldl ?_) | (refine isl_store ?_; refine srl ?_) | (refine isl_alloc ?_; refine all' ?_) | (refine isl_box ?_; refine bxl ?_))
      refine go_pushG (l := [.int .i64 (K + 1 + (j : Int)), .int .i64 0]) (by decide) rfl rfl rfl rfl ho4 rfl (by simp [Value.oneCell']) (by omega) (by simp [maxLen]; omega) (by omega) (by omega) ?_
      intro v2 w5 ho5 hg5 _
      have hx5 : Ext w3 w5 := ext_grown hx4 (by omega) ho4 hg5
      have ho6 : OwnE w5 w3.heap.size v2 (sq (K + 1) (j + 1)) := by
        unfold OwnE
        rw [sq_len, sq_succ, List.flatMap_append]
        simpa using ho5
      repeat (first | refine sp ?_ | (refine is_load ?_; refine ld ?_) | (refine is_store ?_; refine sr ?_) | (refine is_alloc ?_; refine al ?_) | (refine is_box ?_; refine bx ?_) | (refine isl_load ?_; refine ldl ?_) | (refine isl_store ?_; refine srl ?_) | (refine isl_alloc ?_; refine all' ?_) | (refine isl_box ?_; refine bxl ?_))
      exact go_stop (G := Nat × Value) (j + 1, v2) rfl ⟨rfl, rfl, rfl, rfl, trivial⟩ ⟨hlt, hx5, ho6⟩ (by show rs h - (j + 1) < rs h - j; omega)
    · obtain rfl : j = rs h := by omega
      have hx4' := hx3'.trans hx4
      have gr4 : Gr q q1 w w4 := gr1.trans (Gr.ext hx4')
      have hfl := ha1.lt
      have hrF : RdF w4 q1.fp v entC (sq (K + 1) (rs h)) := Own.rdF ho4 rfl fun b hb => by have := hfl b hb; have := hx3'.size; omega
      have hBc := hp1.cap
      have hBf := hp1.fresh
      rw [sq_len] at hBf
      repeat (first | refine sp ?_ | (refine is_load ?_; refine ld ?_) | (refine is_store ?_; refine sr ?_) | (refine is_alloc ?_; refine al ?_) | (refine is_box ?_; refine bx ?_) | (refine isl_load ?_; refine ldl ?_) | (refine isl_store ?_; refine srl ?_) | (refine isl_alloc ?_; refine all' ?_) | (refine isl_box ?_; refine bxl ?_))
      refine go_call rfl rfl (c_PlantG (rs h + 1) (sq (K + 1) (rs h)) v _ w4 lo p q1 B (by rw [sq_len]; omega) (by rw [sq_len]; omega) (by omega) (ha1.ext hx4') hp1.rel (by rw [sq_len]; omega) (Nat.le_trans hlo gr4.fr.size) (gr4.lo hlo hq) hrF) ?_
      rintro _ w5 ⟨C, tr, q2, rfl, ha2, hp2, gr5⟩
      have gr5' := gr4.trans gr5
      have hCf := hp2.fresh
      have hCc := hp2.cap
      rw [sq_len] at hCf
      obtain ⟨hE, hI, hL, hR, hP⟩ := Plt.make (k := K) (v := 0) hp1 hp2 ha.wf ha1.wf ha2.wf (by omega) (by rw [sq_len, sq_len]; unfold balN; omega)
      have hcM := ha2.wf.capM
      have hfr2 := ha2.wf.fr
      have bl : tl.root ≤ 65536 := by rcases hp1.rt with e | e <;> omega
      have br : tr.root ≤ 65536 := by rcases hp2.rt with e | e <;> omega
      rw [← hL0]
      repeat (first | refine sp ?_ | (refine is_load ?_; refine ld ?_) | (refine is_store ?_; refine sr ?_) | (refine is_alloc ?_; refine al ?_) | (refine is_box ?_; refine bx ?_) | (refine isl_load ?_; refine ldl ?_) | (refine isl_store ?_; refine srl ?_) | (refine isl_alloc ?_; refine all' ?_) | (refine isl_box ?_; refine bxl ?_))
      refine go_call rfl rfl (p_Make w5 lo p q2 C K 0 tl.root tr.root ha2 (by omega) (by omega)) ?_
      rintro _ w6 ⟨rfl, q3, ha3, hq3, hf3⟩
      rw [hE, hI]
      have gr6 := gr5'.trans ⟨hq3, hf3⟩
      repeat (first | refine sp ?_ | (refine is_load ?_; refine ld ?_) | (refine is_store ?_; refine sr ?_) | (refine is_alloc ?_; refine al ?_) | (refine is_box ?_; refine bx ?_) | (refine isl_load ?_; refine ldl ?_) | (refine isl_store ?_; refine srl ?_) | (refine isl_alloc ?_; refine all' ?_) | (refine isl_box ?_; refine bxl ?_))
      refine go_call rfl rfl (p_RelKid w6 lo p q3 _ tl.root ha3 (Nat.le_trans hlo gr6.fr.size) (by omega) hL) ?_
      rintro _ w7 ⟨rfl, q4, ha4, hq4, hf4⟩
      have gr7 := gr6.trans ⟨hq4, hf4⟩
      repeat (first | refine sp ?_ | (refine is_load ?_; refine ld ?_) | (refine is_store ?_; refine sr ?_) | (refine is_alloc ?_; refine al ?_) | (refine is_box ?_; refine bx ?_) | (refine isl_load ?_; refine ldl ?_) | (refine isl_store ?_; refine srl ?_) | (refine isl_alloc ?_; refine all' ?_) | (refine isl_box ?_; refine bxl ?_))
      refine go_call rfl rfl (p_RelKid w7 lo p q4 _ tr.root ha4 (Nat.le_trans hlo gr7.fr.size) (by omega) hR) ?_
      rintro _ w8 ⟨rfl, q5, ha5, hq5, hf5⟩
      have gr8 := gr7.trans ⟨hq5, hf5⟩
      repeat (first | refine sp ?_ | (refine is_load ?_; refine ld ?_) | (refine is_store ?_; refine sr ?_) | (refine is_alloc ?_; refine al ?_) | (refine is_box ?_; refine bx ?_) | (refine isl_load ?_; refine ldl ?_) | (refine isl_store ?_; refine srl ?_) | (refine isl_alloc ?_; refine all' ?_) | (refine isl_box ?_; refine bxl ?_))
      have hents : sq first (mk h) ++ (K, 0) :: sq (K + 1) (rs h) = sq first (mk (h + 1)) := by rw [hms, sq_app, hK]
      rw [hents] at hP
      have hht2 : tr.ht ≤ h := by
        have h1 := Tr.wt_le hp2.bal
        rw [← Tr.len, hp2.ent, sq_len] at h1
        rcases Nat.lt_or_ge h tr.ht with hc | hc
        · have := wt_mono (show h + 1 ≤ tr.ht from hc)
          omega
        · exact hc
      exact go_ret3 rfl rfl rfl rfl ⟨_, rfl, _, _, q5, by rw [show K + 1 + (rs h : Int) = first + (mk (h + 1) : Int) by omega]; rfl, ha5, hP, by show 1 + max tl.ht tr.ht = h + 1; omega, gr8⟩

set_option maxHeartbeats 8000000 in
theorem c_LawMinimal (height : Int) (w : World) (hh : -9223372036854775808 ≤ height ∧ height ≤ 9223372036854775807) :
    Calls Try.prog 10 [.int .i64 height].toArray w (Ret fun v w' => v = .bool true ∧ Ext w w') := by
  refine calls_go Try.func10 rfl Try.ntmps10 (Nat.le_of_ble_eq_true rfl) ?_
  repeat (first | refine sp ?_ | (refine is_load ?_; refine ld ?_) | (refine is_store ?_; refine sr ?_) | (refine is_alloc ?_; refine al ?_) | (refine is_box ?_; refine bx ?_) | (refine isl_load ?_; refine ldl ?_) | (refine isl_store ?_; refine srl ?_) | (refine isl_alloc ?_; refine all' ?_) | (refine isl_box ?_; refine bxl ?_))
  refine go_call rfl rfl (c_Mod height 15 w hh (by omega)) ?_
  rintro _ w1 ⟨rfl, rfl⟩
  obtain ⟨m, hm⟩ : ∃ m : Nat, height % 15 = (m : Int) := ⟨(height % 15).toNat, by omega⟩
  have hm14 : m ≤ 14 := by omega
  rw [hm]
  have hmz := mk_z m
  have hw1 := wt_pos m
  have hw2 := wt14 hm14
  have hn0 := minKeys_n m (by omega)
  repeat (first | refine sp ?_ | (refine is_load ?_; refine ld ?_) | (refine is_store ?_; refine sr ?_) | (refine is_alloc ?_; refine al ?_) | (refine is_box ?_; refine bx ?_) | (refine isl_load ?_; refine ldl ?_) | (refine isl_store ?_; refine srl ?_) | (refine isl_alloc ?_; refine all' ?_) | (refine isl_box ?_; refine bxl ?_))
  refine go_call rfl rfl (c_refMinKeys (m : Int) w1) ?_
  rintro _ w2 ⟨rfl, hx2⟩
  rw [hn0, ← hmz]
  repeat (first | refine sp ?_ | (refine is_load ?_; refine ld ?_) | (refine is_store ?_; refine sr ?_) | (refine is_alloc ?_; refine al ?_) | (refine is_box ?_; refine bx ?_) | (refine isl_load ?_; refine ldl ?_) | (refine isl_store ?_; refine srl ?_) | (refine isl_alloc ?_; refine all' ?_) | (refine isl_box ?_; refine bxl ?_))
  refine go_as 18 (u' := .int .i64 ((mk m + 1 : Nat) : Int)) rfl (by congr 1) ?_
  refine go_call rfl rfl (p_New w2 (mk m + 1) (by omega) (by omega)) ?_
  rintro _ w3 ⟨p, q, rfl, ha, hq, hx3⟩
  repeat (first | refine sp ?_ | (refine is_load ?_; refine ld ?_) | (refine is_store ?_; refine sr ?_) | (refine is_alloc ?_; refine al ?_) | (refine is_box ?_; refine bx ?_) | (refine isl_load ?_; refine ldl ?_) | (refine isl_store ?_; refine srl ?_) | (refine isl_alloc ?_; refine all' ?_) | (refine isl_box ?_; refine bxl ?_))
  refine go_call rfl rfl (c_awake7 w3) ?_
  rintro _ w3 ⟨rfl, rfl⟩
  have hx3' := hx2.trans hx3
  repeat (first | refine sp ?_ | (refine is_load ?_; refine ld ?_) | (refine is_store ?_; refine sr ?_) | (refine is_alloc ?_; refine al ?_) | (refine is_box ?_; refine bx ?_) | (refine isl_load ?_; refine ldl ?_) | (refine isl_store ?_; refine srl ?_) | (refine isl_alloc ?_; refine all' ?_) | (refine isl_box ?_; refine bxl ?_))
  refine go_call rfl rfl (c_slim m 0 w3 w2.heap.size p q (AR.new (mk m + 1)) hm14 (by omega) ha rfl (by show 0 + mk m ≤ mk m + 1; omega) hx3.size hq) ?_
  rintro _ w4 ⟨B, t, q1, rfl, ha4, hp4, hht, gr4⟩
  have hsz : t.sz = mk m := by rw [← Tr.len, hp4.ent, sq_len]
  have hsrt : Srt t.ents := by rw [hp4.ent]; exact sq_srt _ _
  have hx4 : Ext w1 w4 := hx3'.trans' gr4.fr fun b hb e => by have := hq b e; have := hx2.size; omega
  have hpf := ha4.fpp
  have hpb : w2.heap.size ≤ p := gr4.lo hx3.size hq p hpf
  repeat (first | refine sp ?_ | (refine is_load ?_; refine ld ?_) | (refine is_store ?_; refine sr ?_) | (refine is_alloc ?_; refine al ?_) | (refine is_box ?_; refine bx ?_) | (refine isl_load ?_; refine ldl ?_) | (refine isl_store ?_; refine srl ?_) | (refine isl_alloc ?_; refine all' ?_) | (refine isl_box ?_; refine bxl ?_))
  refine go_call rfl rfl (c_Measure w4 w2.heap.size p q1 B t ha4 hp4.inA (by omega) (fun a b e _ => by
    have h1 := congrArg List.length e
    rw [t.subs_len, List.length_append] at h1; omega) (by omega)) ?_
  rintro _ w5 ⟨⟨E, hE, rfl⟩, _, hf5⟩
  have hE0 : E = 0 := by
    rcases hE with ⟨_, _, e⟩ | ⟨h, _⟩ | ⟨_, ⟨T, hT, hb⟩, _⟩
    · exact e
    · exact absurd ((srtK_iff t).2 hsrt) h
    · rw [Tr.bal_ok hp4.bal (by omega) T hT] at hb; cases hb
  subst hE0
  simp only [if_true]
  rw [hsz, hht]
  have hx5 : Ext w1 w5 := hx4.trans' hf5 fun b hb e => by have := hx2.size; omega
  repeat (first | refine sp ?_ | (refine is_load ?_; refine ld ?_) | (refine is_store ?_; refine sr ?_) | (refine is_alloc ?_; refine al ?_) | (refine is_box ?_; refine bx ?_) | (refine isl_load ?_; refine ldl ?_) | (refine isl_store ?_; refine srl ?_) | (refine isl_alloc ?_; refine all' ?_) | (refine isl_box ?_; refine bxl ?_))
  exact go_ret1 rfl rfl ⟨_, rfl, by rw [ent_eq'], hx5.trans (by (repeat (first | exact Fr.refl _ _ | assumption | apply Fr.drewN | apply Fr.alloc | (apply Fr.transF; assumption) | (refine Fr.setRow ?_ _ (by first | exact Or.inr (by (first | omega | (simp; done) | (simp; omega))) | (exact Or.inl (by first | assumption | (simp; done))))))))⟩

end Go.Proofs.Ytgafapifpoinlaa
