/-
  An arena that is made by steps (chapter 12).
-/
import Derived.Test.YtfaeboamjfdjlaaAr
import Derived.Test.YtfaeboamjfdjlaaMod
import Derived.Test.YtfaeboamjfdjlaaDn
set_option linter.unusedVariables false
namespace Go.Proofs.Ytfaeboamjfdjlaa
open Go.Vc

/-- 'Make' of nodes that are in the arena: it succeeds, or nothing changes. -/
theorem c_MakeG (w : World) (lo p : Nat) (q : AP) (A : AR) (h : Nat → Nat) (k v : Int) (l r : Nat) (g : Ars w lo p q A h) (hb : ∀ i, h i ≤ 1000000000) (hl : l = 0 ∨ A.used l = true) (hr : r = 0 ∨ A.used r = true) :
    Calls Try.prog 25 [ptr p, .int .i64 k, .int .i64 v, .int .u32 (l : Int), .int .u32 (r : Int)].toArray w (Ret fun x w' =>
      (∃ i : Nat, x = .tuple #[.int .u32 (i : Int), .int .i64 0] ∧ ∃ q' B, Ars w' lo p q' B (addH h i) ∧ Mkd A B i k v l r ∧ (∀ b, q'.fp b → q.fp b ∨ w.heap.size ≤ b) ∧ Fr q.fp w w') ∨
      (∃ E : Int, (E = 1 ∨ (E = 2 ∧ A.free = 0)) ∧ x = .tuple #[.int .u32 0, .int .i64 E] ∧ ∃ q', Ars w' lo p q' A h ∧ (∀ b, q'.fp b → q.fp b ∨ w.heap.size ≤ b) ∧ Fr q.fp w w')) := by
  by_cases hE : A.makeE k v l r = 0
  · refine (c_MakeA w lo p q A h k v l r g hb hl hr hE).mono ?_
    rintro _ w' ⟨x, rfl, rfl, r⟩
    exact ⟨_, rfl, Or.inl ⟨_, rfl, r⟩⟩
  · refine (p_Make w lo p q A k v l r g.ar (used_lt g.ar.wf hl) (used_lt g.ar.wf hr)).mono ?_
    rintro _ w' ⟨x, rfl, rfl, q', ha, hq, hf⟩
    have e1 : A.makeI k v l r = 0 := by unfold AR.makeI; rw [if_neg hE]
    have e2 : A.make k v l r = A := by unfold AR.make; rw [if_neg hE]
    rw [e2] at ha
    refine ⟨_, rfl, Or.inr ⟨A.makeE k v l r, ?_, by rw [e1]; rfl, q', ⟨ha, g.snd, Nat.le_trans g.los hf.size, fun b hb => ?_⟩, hq, hf⟩⟩
    · unfold AR.makeE at hE ⊢
      split at hE
      · exact Or.inl (by rw [if_pos (by assumption)])
      · rename_i h1
        rw [if_neg h1]
        split at hE
        · rename_i h2; exact Or.inr ⟨by rw [if_pos h2], h2⟩
        · exact absurd rfl hE
    · rcases hq b hb with h1 | h1
      · exact g.lof b h1
      · exact Nat.le_trans g.los h1

/-- An arena, and the list of its indexes that were returned. -/
structure Bld (w0 w : World) (lo p : Nat) (q : AP) (A : AR) (ms : List Nat) (mv : Value) : Prop where
  ars : Ars w lo p q A (fun i => ms.count i)
  us : ∀ x ∈ ms, x = 0 ∨ A.used x = true
  own : OwnN w w0.heap.size mv ms
  dis : ∀ b, mv.ownBlock = some b → ¬ q.fp b
  len : 1 ≤ ms.length ∧ ms.length ≤ 100
  ext : Ext w0 w
  lo0 : w0.heap.size ≤ lo

theorem Bld.step {w0 w w' : World} {lo p : Nat} {q : AP} {A : AR} {ms : List Nat} {mv : Value} (g : Bld w0 w lo p q A ms mv) (f : Ext w w') : Bld w0 w' lo p q A ms mv :=
  ⟨g.ars.ext f, g.us, Own.ext g.own f, g.dis, g.len, g.ext.trans f, g.lo0⟩
theorem Bld.hb {w0 w : World} {lo p : Nat} {q : AP} {A : AR} {ms : List Nat} {mv : Value} (g : Bld w0 w lo p q A ms mv) : ∀ i, ms.count i ≤ 1000000 := fun i => by
  have := List.count_le_length (a := i) (l := ms)
  have := g.len; omega
/-- The arena has changed; nothing new is held. -/
theorem Bld.same {w0 w w' : World} {lo p : Nat} {q q' : AP} {A B : AR} {ms : List Nat} {mv : Value} (g : Bld w0 w lo p q A ms mv) (a : Ars w' lo p q' B (fun i => ms.count i)) (kp : Kp A B) (hq : ∀ b, q'.fp b → q.fp b ∨ w.heap.size ≤ b) (f : Fr q.fp w w') : Bld w0 w' lo p q' B ms mv :=
  ⟨a, fun x hx => kp.or (g.us x hx), Own.of_heap g.own fun b hb => f.block b (World.ownsRow.lt g.own b hb).2 (g.dis b hb), fun b hb h => (hq b h).elim (g.dis b hb) fun h => by have := (World.ownsRow.lt g.own b hb).2; omega, g.len, g.ext.trans' f fun b hb e => by have := g.ars.lof b e; have := g.lo0; omega, g.lo0⟩
theorem addH_count {ms : List Nat} {i : Nat} : addH (fun j => ms.count j) i = fun j => (ms ++ [i]).count j := by
  funext j
  unfold addH eq01
  simp only [List.count_append, List.count_cons, List.count_nil, beq_iff_eq]
  split <;> simp_all
/-- One index more is held, and it is put on the list. -/
theorem Bld.push {w0 w w1 w' : World} {lo p : Nat} {q q' : AP} {A B : AR} {ms : List Nat} {mv mv' : Value} {i : Nat} (g : Bld w0 w lo p q A ms mv) (a : Ars w1 lo p q' B (addH (fun i => ms.count i) i)) (kp : Kp A B) (hi : i = 0 ∨ B.used i = true) (hq : ∀ b, q'.fp b → q.fp b ∨ w.heap.size ≤ b) (f : Fr q.fp w w1)
    (hl : ms.length < 100) (ho : OwnN w' w0.heap.size mv' (ms ++ [i])) (hg : w1.grownBy w' mv.ownBlock) (hbk : ∀ b, mv'.ownBlock = some b → mv.ownBlock = some b ∨ w1.heap.size ≤ b) : Bld w0 w' lo p q' B (ms ++ [i]) mv' := by
  have hdis' : ∀ b, mv.ownBlock = some b → ¬ q'.fp b := fun b hb h => (hq b h).elim (g.dis b hb) fun h => by have := (World.ownsRow.lt g.own b hb).2; omega
  have f2 := Fr.of_grown hg
  have e1 : Ext w0 w1 := g.ext.trans' f fun b hb e => by have := g.ars.lof b e; have := g.lo0; omega
  refine ⟨⟨a.ar.fr f2 fun b hb e => hdis' b e hb, ?_, Nat.le_trans a.los hg.size, a.lof⟩, ?_, ho, ?_, ?_, ?_, g.lo0⟩
  · rw [← addH_count]; exact a.snd
  · intro x hx
    rcases List.mem_append.1 hx with h | h
    · exact kp.or (g.us x h)
    · simp at h; subst h; exact hi
  · intro b hb h
    rcases hbk b hb with e | e
    · exact hdis' b e h
    · have := a.ar.lt b h; omega
  · have := g.len; simp; omega
  · exact e1.trans' f2 fun b hb e => by have := (World.ownsRow.lt g.own b e).1; omega

abbrev St4 : Type := Int × Int × Int × Int
def stC (e : St4) : List Value := [.int .i64 e.1, .int .i64 e.2.1, .int .i64 e.2.2.1, .int .i64 e.2.2.2]
def InSt (e : St4) : Prop := (-9223372036854775808 ≤ e.2.2.1 ∧ e.2.2.1 ≤ 9223372036854775807) ∧ (-9223372036854775808 ≤ e.2.2.2 ∧ e.2.2.2 ≤ 9223372036854775807)

theorem OwnN.at {w : World} {lo : Nat} {sa : Option Addr} {n cap : Nat} {ms : List Nat} (h : OwnN w lo (.slice sa n cap) ms) {j : Nat} (hj : j < ms.length) : ∃ b o, sa = some ⟨b, o, none⟩ ∧ w.cell? ⟨b, o + j, none⟩ = some (.int .u32 (ms[j] : Int)) ∧ n = ms.length := by
  obtain ⟨sa', cap', e, _, hr⟩ := h.slice
  simp only [Value.slice.injEq] at e
  obtain ⟨rfl, e2, rfl⟩ := e
  obtain ⟨b, o, e1, hc⟩ := hr j _ (by rw [List.getElem?_map, List.getElem?_eq_getElem hj]; rfl)
  exact ⟨b, o, e1, hc, e2⟩

set_option maxHeartbeats 8000000 in
theorem c_build12 (w : World) (lv : Value) (l : List St4) (s : Nat) (hr : RdU w w.heap.size lv stC l) (hl : l.length ≤ 9223372036854775807) (hin : ∀ e ∈ l, InSt e) (hs : s ≤ 10) :
    Calls Try.prog 13 [lv, .int .i64 (s : Int)].toArray w (Ret fun r w' => ∃ (lo p : Nat) (q : AP) (A : AR) (ms : List Nat) (mv : Value), r = .tuple #[ptr p, mv, .bool true] ∧ Bld w w' lo p q A ms mv ∧ A.free = s ∧ ms.length ≤ 60) := by
  have hr0 := hr
  obtain ⟨sa, cap, rfl, hlc, _, _⟩ := hr0
  obtain ⟨n, hn⟩ : ∃ n : Nat, n = min l.length 25 := ⟨_, rfl⟩
  have hn1 : n ≤ l.length := by omega
  have hn2 : n ≤ 25 := by omega
  refine calls_go Try.func13 rfl Try.ntmps13 (Nat.le_of_ble_eq_true rfl) ?_
  repeat (first | refine sp ?_ | (refine is_load ?_; refine ld ?_) | (refine is_store ?_; refine sr ?_) | (refine is_alloc ?_; refine al ?_) | (refine is_box ?_; refine bx ?_) | (refine isl_load ?_; refine ldl ?_) | (refine isl_store ?_; refine srl ?_) | (refine isl_alloc ?_; refine all' ?_) | (refine isl_box ?_; refine bxl ?_))
  refine go_as 7 (u' := .int .i64 (n : Int)) rfl (by congr 1; omega) ?_
  refine go_as 24 (u' := .int .i64 ((n + 1 + s : Nat) : Int)) rfl (by congr 1; omega) ?_
  refine go_call rfl rfl (p_New w (n + 1 + s) (by omega) (by omega)) ?_
  rintro _ w1 ⟨p, q, rfl, ha, hq, hx1⟩
  have hnew : (AR.new (n + 1 + s)).free = n + 1 + s := by show 0 + (n + 1 + s) - 0 = _; omega
  have g1 : Ars w1 w.heap.size p q (AR.new (n + 1 + s)) (fun _ => 0) := ⟨ha, Sound.new (by omega) (by omega), hx1.size, hq⟩
  repeat (first | refine sp ?_ | (refine is_load ?_; refine ld ?_) | (refine is_store ?_; refine sr ?_) | (refine is_alloc ?_; refine al ?_) | (refine is_box ?_; refine bx ?_) | (refine isl_load ?_; refine ldl ?_) | (refine isl_store ?_; refine srl ?_) | (refine isl_alloc ?_; refine all' ?_) | (refine isl_box ?_; refine bxl ?_))
  refine go_litG (l := [.int .u32 0]) rfl rfl (by decide) (by decide) rfl ?_
  have hx2 : Ext w1 (w1.alloc (.cells [Value.int .u32 0].toArray 23)) := by (repeat (first | exact Fr.refl _ _ | assumption | apply Fr.drewN | apply Fr.alloc | (apply Fr.transF; assumption) | (refine Fr.setRow ?_ _ (by first | exact Or.inr (by (first | omega | (simp; done) | (simp; omega))) | (exact Or.inl (by first | assumption | (simp; done)))))))
  have hat2 := At.new w1 [Value.int .u32 0] 23
  have hs1 := hx1.size
  have b2 : Bld w (w1.alloc (.cells [Value.int .u32 0].toArray 23)) w.heap.size p q (AR.new (n + 1 + s)) [0] (.slice (some ⟨w1.heap.size, 0, none⟩) 1 1) := by
    refine ⟨(g1.ext hx2).congr fun i hi => ?_, fun x hx => Or.inl (by simpa using hx), ?_, fun b hb h => ?_, by simp, hx1.trans hx2, Nat.le_refl _⟩
    · rw [List.count_eq_zero.2 (by simp; omega)]
    · unfold OwnN
      exact Own.of_block1 (C := []) rfl hs1 (by simpa using hat2) (by simp [maxLen]) rfl
    · simp only [Value.ownBlock, Option.some.injEq] at hb
      have := ha.lt b h; omega
  generalize w1.alloc (.cells [Value.int .u32 0].toArray 23) = w2 at *
  generalize hmv0 : Value.slice (some ⟨w1.heap.size, 0, none⟩) 1 1 = mv0 at *
  repeat (first | refine sp ?_ | (refine is_load ?_; refine ld ?_) | (refine is_store ?_; refine sr ?_) | (refine is_alloc ?_; refine al ?_) | (refine is_box ?_; refine bx ?_) | (refine isl_load ?_; refine ldl ?_) | (refine isl_store ?_; refine srl ?_) | (refine isl_alloc ?_; refine all' ?_) | (refine isl_box ?_; refine bxl ?_))
  refine go_loop (G := Nat × Value × List Nat) [11, 10] (fun ⟨k, mv, _⟩ => [.int .i64 (k : Int), mv]) [(0, .slice sa l.length cap), (1, .int .i64 (s : Int)), (7, .int .i64 (n : Int)), (8, ptr p)]
    (fun ⟨k, mv, ms⟩ w' => k ≤ n ∧ ∃ q A, Bld w w' w.heap.size p q A ms mv ∧ A.free + ms.length = n + s + 2 ∧ ms.length ≤ k + 1) (fun g => n - g.1) (0, mv0, [0]) rfl ⟨rfl, rfl, rfl, rfl, trivial⟩ ⟨by omega, q, _, b2, by rw [hnew]; simp; omega, by simp⟩ ?_
  rintro ⟨k, mv, ms⟩ w3 ⟨hk, q3, A, b3, hfr, hml⟩
  have hml1 := b3.len.1
  by_cases hlt : k < n
  · have hkl : k < l.length := by omega
    obtain ⟨b, o, es, hbl, hcell⟩ := (hr.ext b3.ext).at (m := 4) (fun _ => rfl) (by omega) hkl
    subst es
    obtain ⟨hi1, hi2⟩ := hin _ (List.getElem_mem hkl)
    have e0 : w3.cell? ⟨b, o + k * 4 + 0 + 0, none⟩ = some (.int .i64 l[k].1) := hcell 0 _ rfl
    have e1 : w3.cell? ⟨b, o + k * 4 + 0 + 1, none⟩ = some (.int .i64 l[k].2.1) := hcell 1 _ rfl
    have e2 : w3.cell? ⟨b, o + k * 4 + 2, none⟩ = some (.int .i64 l[k].2.2.1) := hcell 2 _ rfl
    have e3 : w3.cell? ⟨b, o + k * 4 + 3, none⟩ = some (.int .i64 l[k].2.2.2) := hcell 3 _ rfl
    clear hcell
    obtain ⟨⟨key, val, il, ir⟩, hle⟩ : ∃ e, l[k] = e := ⟨_, rfl⟩
    rw [hle] at e0 e1 e2 e3 hi1 hi2
    obtain ⟨sv, cv, hmv, hcv, _⟩ := Own.slice b3.own
    subst hmv
    have hml3 := b3.len.2
    obtain ⟨u1, hu1⟩ : ∃ u : Nat, il % (ms.length : Int) = u := ⟨(il % (ms.length : Int)).toNat, by have := Int.emod_nonneg il (show (ms.length : Int) ≠ 0 by omega); omega⟩
    obtain ⟨u2, hu2⟩ : ∃ u : Nat, ir % (ms.length : Int) = u := ⟨(ir % (ms.length : Int)).toNat, by have := Int.emod_nonneg ir (show (ms.length : Int) ≠ 0 by omega); omega⟩
    have hv1 : u1 < ms.length := by have := Int.emod_lt_of_pos il (show (0 : Int) < ms.length by omega); omega
    have hv2 : u2 < ms.length := by have := Int.emod_lt_of_pos ir (show (0 : Int) < ms.length by omega); omega
    obtain ⟨mb, mo, esv, hc1, _⟩ := OwnN.at b3.own hv1
    obtain ⟨mb2, mo2, esv2, hc2, _⟩ := OwnN.at b3.own hv2
    subst esv
    simp only [Option.some.injEq, Addr.mk.injEq, and_true] at esv2
    obtain ⟨rfl, rfl⟩ := esv2
    have hus1 := b3.us _ (List.getElem_mem hv1)
    have hus2 := b3.us _ (List.getElem_mem hv2)
    generalize ms[u1] = i1 at *
    generalize ms[u2] = i2 at *
    have hbq : ¬ q3.fp b := fun h => by have := b3.ars.lof b h; omega
    have hmq : ¬ q3.fp mb := b3.dis mb rfl
    repeat (first | refine sp ?_ | (refine is_load ?_; refine ld ?_) | (refine is_store ?_; refine sr ?_) | (refine is_alloc ?_; refine al ?_) | (refine is_box ?_; refine bx ?_) | (refine isl_load ?_; refine ldl ?_) | (refine isl_store ?_; refine srl ?_) | (refine isl_alloc ?_; refine all' ?_) | (refine isl_box ?_; refine bxl ?_))
    refine go_drawE (Fr q3.fp w3) 0 Try.follows (by kernel_rfl) (by kernel_rfl) (by kernel_rfl) ((Fr.refl _ _).drewN 1) ?_
    repeat (first | refine sp ?_ | (refine is_load ?_; refine ld ?_) | (refine is_store ?_; refine sr ?_) | (refine is_alloc ?_; refine al ?_) | (refine is_box ?_; refine bx ?_) | (refine isl_load ?_; refine ldl ?_) | (refine isl_store ?_; refine srl ?_) | (refine isl_alloc ?_; refine all' ?_) | (refine isl_box ?_; refine bxl ?_))
    refine gol_call rfl rfl (c_Mod il ms.length _ hi1 (by omega)) ?_
    rintro _ w4 ⟨rfl, rfl⟩
    refine ⟨(Fr.refl _ _).drewN 1, ?_⟩
    simp only [hu1]
    repeat (first | refine sp ?_ | (refine is_load ?_; refine ld ?_) | (refine is_store ?_; refine sr ?_) | (refine is_alloc ?_; refine al ?_) | (refine is_box ?_; refine bx ?_) | (refine isl_load ?_; refine ldl ?_) | (refine isl_store ?_; refine srl ?_) | (refine isl_alloc ?_; refine all' ?_) | (refine isl_box ?_; refine bxl ?_))
    refine gol_call rfl rfl (c_Mod ir ms.length _ hi2 (by omega)) ?_
    rintro _ w4 ⟨rfl, rfl⟩
    refine ⟨(Fr.refl _ _).drewN 1, ?_⟩
    simp only [hu2]
    repeat (first | refine sp ?_ | (refine is_load ?_; refine ld ?_) | (refine is_store ?_; refine sr ?_) | (refine is_alloc ?_; refine al ?_) | (refine is_box ?_; refine bx ?_) | (refine isl_load ?_; refine ldl ?_) | (refine isl_store ?_; refine srl ?_) | (refine isl_alloc ?_; refine all' ?_) | (refine isl_box ?_; refine bxl ?_))
    have hxd : Ext w3 (w3.drewN 1) := (Fr.refl _ _).drewN 1
    have bd := b3.step hxd
    refine gol_call rfl rfl (c_MakeG (w3.drewN 1) w.heap.size p q3 A _ key val i1 i2 bd.ars (fun i => by have := b3.hb i; omega) hus1 hus2) ?_
    generalize w3.drewN 1 = wd at *
    rintro _ w4 (⟨i, rfl, q4, B, a4, m4, hq4, hf4⟩ | ⟨E, hE, rfl, q4, a4, hq4, hf4⟩)
    · refine ⟨Fr.trans (hxd.mono fun _ e => e.elim) hf4, ?_⟩
      have hmfr := m4.free
      have hown4 : OwnN w4 w.heap.size (.slice (some ⟨mb, mo, none⟩) ms.length cv) ms := Own.of_heap bd.own fun b hb => hf4.block b (World.ownsRow.lt bd.own b hb).2 (bd.dis b hb)
      have hs4 := hf4.size
      have hsd := bd.ext.size
      unfold OwnN at hown4
      repeat (first | refine sp ?_ | (refine is_load ?_; refine ld ?_) | (refine is_store ?_; refine sr ?_) | (refine is_alloc ?_; refine al ?_) | (refine is_box ?_; refine bx ?_) | (refine isl_load ?_; refine ldl ?_) | (refine isl_store ?_; refine srl ?_) | (refine isl_alloc ?_; refine all' ?_) | (refine isl_box ?_; refine bxl ?_))
      refine go_pushG (l := [.int .u32 (i : Int)]) (by decide) rfl rfl rfl rfl hown4 rfl (by simp [Value.oneCell']) (by omega) (by simp [maxLen]; omega) (by omega) (by omega) ?_
      intro v5 w5 ho5 hg5 hbk5
      have ho5' : OwnN w5 w.heap.size v5 (ms ++ [i]) := by
        unfold OwnN
        rw [List.map_append, List.length_append]
        exact ho5
      have b5 := bd.push a4 m4.kp (Or.inr m4.use) hq4 hf4 (by omega) ho5' hg5 hbk5
      repeat (first | refine sp ?_ | (refine is_load ?_; refine ld ?_) | (refine is_store ?_; refine sr ?_) | (refine is_alloc ?_; refine al ?_) | (refine is_box ?_; refine bx ?_) | (refine isl_load ?_; refine ldl ?_) | (refine isl_store ?_; refine srl ?_) | (refine isl_alloc ?_; refine all' ?_) | (refine isl_box ?_; refine bxl ?_))
      exact go_stop (G := Nat × Value × List Nat) (k + 1, v5, ms ++ [i]) rfl ⟨rfl, rfl, rfl, rfl, trivial⟩ ⟨hlt, q4, B, b5, by simp; omega, by simp; omega⟩ (by show n - (k + 1) < n - k; omega)
    · refine ⟨Fr.trans (hxd.mono fun _ e => e.elim) hf4, ?_⟩
      obtain rfl : E = 1 := by
        rcases hE with h | ⟨_, h⟩
        · exact h
        · omega
      have b4 := bd.same a4 (Kp.refl A) hq4 hf4
      repeat (first | refine sp ?_ | (refine is_load ?_; refine ld ?_) | (refine is_store ?_; refine sr ?_) | (refine is_alloc ?_; refine al ?_) | (refine is_box ?_; refine bx ?_) | (refine isl_load ?_; refine ldl ?_) | (refine isl_store ?_; refine srl ?_) | (refine isl_alloc ?_; refine all' ?_) | (refine isl_box ?_; refine bxl ?_))
      exact go_stop (G := Nat × Value × List Nat) (k + 1, _, ms) rfl ⟨rfl, rfl, rfl, rfl, trivial⟩ ⟨hlt, q4, A, b4, hfr, by show ms.length ≤ k + 1 + 1; omega⟩ (by show n - (k + 1) < n - k; omega)
  · obtain rfl : k = n := by omega
    repeat (first | refine sp ?_ | (refine is_load ?_; refine ld ?_) | (refine is_store ?_; refine sr ?_) | (refine is_alloc ?_; refine al ?_) | (refine is_box ?_; refine bx ?_) | (refine isl_load ?_; refine ldl ?_) | (refine isl_store ?_; refine srl ?_) | (refine isl_alloc ?_; refine all' ?_) | (refine isl_box ?_; refine bxl ?_))
    refine go_loop (G := Nat × Value × List Nat) [14, 10] (fun ⟨j, mv, _⟩ => [.int .i64 (j : Int), mv]) [(1, .int .i64 (s : Int)), (8, ptr p)]
      (fun ⟨j, mv, ms⟩ w' => ∃ q A, Bld w w' w.heap.size p q A ms mv ∧ A.free + ms.length = k + s + 2 ∧ j + 1 ≤ ms.length ∧ s ≤ A.free) (fun g => k + 2 - g.2.2.length) (0, mv, ms) rfl ⟨rfl, rfl, trivial⟩ ⟨q3, A, b3, hfr, by omega, by omega⟩ ?_
    rintro ⟨j, mv, ms⟩ w4 ⟨q4, A, b4, hfr, hj, hfs⟩
    have hml4 := b4.len.2
    repeat (first | refine sp ?_ | (refine is_load ?_; refine ld ?_) | (refine is_store ?_; refine sr ?_) | (refine is_alloc ?_; refine al ?_) | (refine is_box ?_; refine bx ?_) | (refine isl_load ?_; refine ldl ?_) | (refine isl_store ?_; refine srl ?_) | (refine isl_alloc ?_; refine all' ?_) | (refine isl_box ?_; refine bxl ?_))
    refine go_call rfl rfl (p_Free w4 w.heap.size p q4 A b4.ars.ar) ?_
    rintro _ w5 ⟨rfl, hx5⟩
    have b5 := b4.step hx5
    by_cases hgt : s < A.free
    · have hjk : j < 60 := by omega
      repeat (first | refine sp ?_ | (refine is_load ?_; refine ld ?_) | (refine is_store ?_; refine sr ?_) | (refine is_alloc ?_; refine al ?_) | (refine is_box ?_; refine bx ?_) | (refine isl_load ?_; refine ldl ?_) | (refine isl_store ?_; refine srl ?_) | (refine isl_alloc ?_; refine all' ?_) | (refine isl_box ?_; refine bxl ?_))
      have hE : A.makeE 0 0 0 0 = 0 := mkE0 b5.ars.snd (Or.inl rfl) (Or.inl rfl) (by simp [szOf]) (by omega)
      refine go_call rfl rfl (c_MakeA w5 w.heap.size p q4 A _ 0 0 0 0 b5.ars (fun i => by have := b4.hb i; omega) (Or.inl rfl) (Or.inl rfl) hE) ?_
      rintro _ w6 ⟨rfl, q6, B, a6, m6, hq6, hf6⟩
      have hmfr := m6.free
      have hown6 : OwnN w6 w.heap.size mv ms := Own.of_heap b5.own fun b hb => hf6.block b (World.ownsRow.lt b5.own b hb).2 (b5.dis b hb)
      have hs6 := hf6.size
      have hs5 := b5.ext.size
      unfold OwnN at hown6
      obtain ⟨i, hi⟩ : ∃ i, A.top = i := ⟨_, rfl⟩
      rw [hi] at a6 m6 ⊢
      repeat (first | refine sp ?_ | (refine is_load ?_; refine ld ?_) | (refine is_store ?_; refine sr ?_) | (refine is_alloc ?_; refine al ?_) | (refine is_box ?_; refine bx ?_) | (refine isl_load ?_; refine ldl ?_) | (refine isl_store ?_; refine srl ?_) | (refine isl_alloc ?_; refine all' ?_) | (refine isl_box ?_; refine bxl ?_))
      refine go_pushG (l := [.int .u32 (i : Int)]) (by decide) rfl rfl rfl rfl hown6 rfl (by simp [Value.oneCell']) (by omega) (by simp [maxLen]; omega) (by omega) (by omega) ?_
      intro v7 w7 ho7 hg7 hbk7
      have ho7' : OwnN w7 w.heap.size v7 (ms ++ [i]) := by
        unfold OwnN
        rw [List.map_append, List.length_append]
        exact ho7
      have b7 := b5.push a6 m6.kp (Or.inr m6.use) hq6 hf6 (by omega) ho7' hg7 hbk7
      repeat (first | refine sp ?_ | (refine is_load ?_; refine ld ?_) | (refine is_store ?_; refine sr ?_) | (refine is_alloc ?_; refine al ?_) | (refine is_box ?_; refine bx ?_) | (refine isl_load ?_; refine ldl ?_) | (refine isl_store ?_; refine srl ?_) | (refine isl_alloc ?_; refine all' ?_) | (refine isl_box ?_; refine bxl ?_))
      exact go_stop (G := Nat × Value × List Nat) (j + 1, v7, ms ++ [i]) rfl ⟨rfl, rfl, trivial⟩ ⟨q6, B, b7, by simp; omega, by simp; omega, by omega⟩ (by show k + 2 - (ms ++ [i]).length < k + 2 - ms.length; simp; omega)
    · repeat (first | refine sp ?_ | (refine is_load ?_; refine ld ?_) | (refine is_store ?_; refine sr ?_) | (refine is_alloc ?_; refine al ?_) | (refine is_box ?_; refine bx ?_) | (refine isl_load ?_; refine ldl ?_) | (refine isl_store ?_; refine srl ?_) | (refine isl_alloc ?_; refine all' ?_) | (refine isl_box ?_; refine bxl ?_))
      exact go_ret3 rfl rfl rfl rfl ⟨_, rfl, w.heap.size, p, q4, A, ms, mv, rfl, b5, by omega, by omega⟩

end Go.Proofs.Ytfaeboamjfdjlaa
