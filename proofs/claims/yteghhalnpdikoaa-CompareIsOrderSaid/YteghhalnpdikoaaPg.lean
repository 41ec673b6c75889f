/-
  A balanced tree is planted in an arena: the same with a sharper frame (the arena's own blocks alone change).
-/
import Derived.Test.YteghhalnpdikoaaPl
set_option linter.unusedVariables false
namespace Go.Vc
/-- The slice 'v' holds the records 'xs'; its array is no block of 'S'. -/
def RdF {α : Type} (w : World) (S : Nat → Prop) (v : Value) (enc : α → List Value) (xs : List α) : Prop :=
  ∃ sa cap, v = .slice sa xs.length cap ∧ xs.length ≤ cap ∧ RdC w sa (xs.flatMap enc) ∧ ∀ b o, sa = some ⟨b, o, none⟩ → xs ≠ [] → b < w.heap.size ∧ ¬ S b
theorem RdF.u {α : Type} {w : World} {S : Nat → Prop} {v : Value} {enc : α → List Value} {xs : List α} (h : RdF w S v enc xs) : RdU w w.heap.size v enc xs := by
  obtain ⟨sa, cap, e, hc, hr, hb⟩ := h
  exact ⟨sa, cap, e, hc, hr, fun b o e hx => (hb b o e hx).1⟩
theorem RdF.fr {α : Type} {w w' : World} {S S' : Nat → Prop} {v : Value} {enc : α → List Value} {xs : List α} (h : RdF w S v enc xs) (f : Fr S w w') (hS : ∀ b, S' b → S b ∨ w.heap.size ≤ b) : RdF w' S' v enc xs := by
  obtain ⟨sa, cap, e, hc, hr, hb⟩ := h
  by_cases hx : xs = []
  · exact ⟨sa, cap, e, hc, (by subst hx; intro j u hj; simp at hj), fun b o e hn => absurd hx hn⟩
  · exact ⟨sa, cap, e, hc, hr.fr f (fun b o e => (hb b o e hx).2), fun b o e hx => ⟨Nat.lt_of_lt_of_le (hb b o e hx).1 f.size, fun h => (hS b h).elim (hb b o e hx).2 fun h => by have := (hb b o e hx).1; omega⟩⟩
theorem RdF.ext {α : Type} {w w' : World} {S : Nat → Prop} {v : Value} {enc : α → List Value} {xs : List α} (h : RdF w S v enc xs) (f : Ext w w') : RdF w' S v enc xs := h.fr (f.mono fun _ e => e.elim) fun b hb => Or.inl hb
theorem RdF.cut {α : Type} {w : World} {S : Nat → Prop} {sa : Option Addr} {n cap m a b : Nat} {enc : α → List Value} {xs : List α} (h : RdF w S (.slice sa n cap) enc xs) (hm : ∀ x, (enc x).length = m) (hm0 : 0 < m) (h1 : a ≤ b) (h2 : b ≤ xs.length) :
    RdF w S (.slice (cutA sa m cap a) (b - a) (cap - a)) enc ((xs.take b).drop a) := by
  obtain ⟨sa1, cap1, e1, hc1, hr1, hb1⟩ := h.u.cut hm hm0 h1 h2
  obtain ⟨sa', cap', e, hc, hr, hb⟩ := h
  simp only [Value.slice.injEq] at e
  obtain ⟨rfl, rfl, rfl⟩ := e
  refine ⟨sa1, cap1, e1, hc1, hr1, ?_⟩
  simp only [Value.slice.injEq] at e1
  obtain ⟨rfl, _, _⟩ := e1
  intro bb o e hx
  have hxs : xs ≠ [] := by rintro rfl; simp at hx
  have hab : cap ≠ a := by
    rintro rfl
    apply hx
    rw [List.drop_eq_nil_of_le (by simp; omega)]
  unfold cutA at e
  rw [if_neg hab] at e
  cases sa with
  | none => cases e
  | some ad =>
    obtain ⟨b0, o0, sp⟩ := ad
    obtain ⟨x0, hx0⟩ : ∃ x, xs[0]? = some x := ⟨_, List.getElem?_eq_getElem (List.length_pos_iff.2 hxs)⟩
    simp only [Option.map_some, Option.some.injEq] at e
    have hsp : sp = none := by
      obtain ⟨u0, hu0⟩ : ∃ u, (enc x0)[0]? = some u := ⟨_, List.getElem?_eq_getElem (by rw [hm]; exact hm0)⟩
      obtain ⟨b', o', e', _⟩ := hr _ _ (flatMap_get hm hx0 hu0)
      simp only [Option.some.injEq, Addr.mk.injEq] at e'
      exact e'.2.2
    subst hsp
    rw [addr_add] at e
    simp only [Addr.mk.injEq] at e
    obtain ⟨rfl, _⟩ := e
    exact hb _ _ rfl hxs
end Go.Vc

namespace Go.Proofs.Yteghhalnpdikoaa
open Go.Vc

/-- A step of an arena's owner: its blocks change, and what it takes is new. -/
structure Gr (q q' : AP) (w w' : World) : Prop where
  nw : ∀ b, q'.fp b → q.fp b ∨ w.heap.size ≤ b
  fr : Fr q.fp w w'
theorem Gr.refl (q : AP) (w : World) : Gr q q w w := ⟨fun _ h => Or.inl h, Fr.refl _ _⟩
theorem Gr.trans {q q1 q2 : AP} {w w1 w2 : World} (h : Gr q q1 w w1) (g : Gr q1 q2 w1 w2) : Gr q q2 w w2 :=
  ⟨fun b hb => (g.nw b hb).elim (fun h1 => h.nw b h1) fun h1 => Or.inr (Nat.le_trans h.fr.size h1), h.fr.trans' g.fr fun b hb e => (h.nw b e).elim id fun h => by omega⟩
theorem Gr.ext {q : AP} {w w' : World} (f : Ext w w') : Gr q q w w' := ⟨fun _ h => Or.inl h, f.mono fun _ e => e.elim⟩
theorem Gr.lo {q q' : AP} {w w' : World} {lo : Nat} (g : Gr q q' w w') (hl : lo ≤ w.heap.size) (h : ∀ b, q.fp b → lo ≤ b) : ∀ b, q'.fp b → lo ≤ b := fun b hb => (g.nw b hb).elim (h b) fun h => by omega

set_option maxHeartbeats 4000000 in
theorem c_PlantG (m : Nat) : ∀ (l : List (Int × Int)) (lv : Value) (tilt : Int) (w : World) (lo p : Nat) (q : AP) (A : AR), l.length < m → l.length ≤ 1000 → (0 ≤ tilt ∧ tilt ≤ 18446744073709551615) → ArP w lo p q A → A.rel = [] → A.fresh + l.length ≤ A.cap → lo ≤ w.heap.size → (∀ b, q.fp b → lo ≤ b) → RdF w q.fp lv entC l →
    Calls Try.prog 15 [ptr p, lv, .int .u64 tilt].toArray w (Ret fun r w' => ∃ (B : AR) (t : Tr) (q' : AP), r = .tuple #[.int .u32 (t.root : Int), .bool true] ∧ ArP w' lo p q' B ∧ Plt A B t l ∧ Gr q q' w w') := by
  induction m with
  | zero => intro l _ _ _ _ _ _ _ h; omega
  | succ m ih =>
    intro l lv tilt w lo p q A hm hl ht ha hrel hcap hlo hq hr
    have hr0 := hr
    obtain ⟨sa, cap, rfl, hlc, _, _⟩ := hr0
    by_cases h0 : l.length = 0
    · obtain rfl : l = [] := List.eq_nil_of_length_eq_zero h0
      refine calls_go Try.func15 rfl Try.ntmps15 (Nat.le_of_ble_eq_true rfl) ?_
      repeat (first | refine sp ?_ | (refine is_load ?_; refine ld ?_) | (refine is_store ?_; refine sr ?_) | (refine is_alloc ?_; refine al ?_) | (refine is_box ?_; refine bx ?_) | (refine isl_load ?_; refine ldl ?_) | (refine isl_store ?_; refine srl ?_) | (refine isl_alloc ?_; refine all' ?_) | (refine isl_box ?_; refine bxl ?_) | refine dr Try.follows ?_)
      exact go_ret2 rfl rfl rfl ⟨_, rfl, A, .nil, q, rfl, ha, Plt.nil hrel, Gr.ext (by (repeat (first | exact Fr.refl _ _ | assumption | apply Fr.drewN | apply Fr.alloc | (apply Fr.transF; assumption) | (refine Fr.setRow ?_ _ (by first | exact Or.inr (by (first | omega | (simp; done) | (simp; omega))) | (exact Or.inl (by first | assumption | (simp; done))))))))⟩
    have hcapM := ha.wf.capM
    refine calls_go Try.func15 rfl Try.ntmps15 (Nat.le_of_ble_eq_true rfl) ?_
    repeat (first | refine sp ?_ | (refine is_load ?_; refine ld ?_) | (refine is_store ?_; refine sr ?_) | (refine is_alloc ?_; refine al ?_) | (refine is_box ?_; refine bx ?_) | (refine isl_load ?_; refine ldl ?_) | (refine isl_store ?_; refine srl ?_) | (refine isl_alloc ?_; refine all' ?_) | (refine isl_box ?_; refine bxl ?_) | refine dr Try.follows ?_)
    refine go_call rfl rfl (c_pivot l.length tilt w (by omega) (by omega) ht) ?_
    rintro _ w ⟨k, rfl, hk, hbal, rfl⟩
    have t1 := wrap_u64_bd (tilt / 5 + IntKind.u64.wrap (tilt * 3))
    have t2 := wrap_u64_bd (IntKind.u64.wrap (tilt / 7 + IntKind.u64.wrap (tilt * 5)) + 1)
    have hm2 : ∀ x : Int × Int, (entC x).length = 2 := fun _ => rfl
    repeat (first | refine sp ?_ | (refine is_load ?_; refine ld ?_) | (refine is_store ?_; refine sr ?_) | (refine is_alloc ?_; refine al ?_) | (refine is_box ?_; refine bx ?_) | (refine isl_load ?_; refine ldl ?_) | (refine isl_store ?_; refine srl ?_) | (refine isl_alloc ?_; refine all' ?_) | (refine isl_box ?_; refine bxl ?_) | refine dr Try.follows ?_)
    refine go_p rfl (pr_sl (lo := 0) (hi := k) (by decide) rfl rfl ⟨_, _, rfl, rfl⟩ (by omega) (by omega)) ?_
    repeat (first | refine sp ?_ | (refine is_load ?_; refine ld ?_) | (refine is_store ?_; refine sr ?_) | (refine is_alloc ?_; refine al ?_) | (refine is_box ?_; refine bx ?_) | (refine isl_load ?_; refine ldl ?_) | (refine isl_store ?_; refine srl ?_) | (refine isl_alloc ?_; refine all' ?_) | (refine isl_box ?_; refine bxl ?_) | refine dr Try.follows ?_)
    have r1 := hr.cut hm2 (by omega) (a := 0) (b := k) (by omega) (by omega)
    rw [List.drop_zero] at r1
    refine go_call rfl rfl (ih (l.take k) _ _ w lo p q A (by simp; omega) (by simp; omega) t1 ha hrel (by simp; omega) hlo hq r1) ?_
    rintro _ w1 ⟨B, tl, q1, rfl, ha1, hp1, gr1⟩
    have hf1 := gr1.fr
    have hq1 := gr1.lo hlo hq
    have f1 := hp1.fresh
    have hlen1 : (l.take k).length = k := by simp; omega
    repeat (first | refine sp ?_ | (refine is_load ?_; refine ld ?_) | (refine is_store ?_; refine sr ?_) | (refine is_alloc ?_; refine al ?_) | (refine is_box ?_; refine bx ?_) | (refine isl_load ?_; refine ldl ?_) | (refine isl_store ?_; refine srl ?_) | (refine isl_alloc ?_; refine all' ?_) | (refine isl_box ?_; refine bxl ?_) | refine dr Try.follows ?_)
    refine go_p rfl (pr_sl (lo := k + 1) (hi := l.length) (by decide) rfl ⟨_, _, rfl, by omega⟩ rfl (by omega) (by omega)) ?_
    repeat (first | refine sp ?_ | (refine is_load ?_; refine ld ?_) | (refine is_store ?_; refine sr ?_) | (refine is_alloc ?_; refine al ?_) | (refine is_box ?_; refine bx ?_) | (refine isl_load ?_; refine ldl ?_) | (refine isl_store ?_; refine srl ?_) | (refine isl_alloc ?_; refine all' ?_) | (refine isl_box ?_; refine bxl ?_) | refine dr Try.follows ?_)
    have r2 := (hr.fr hf1 gr1.nw).cut hm2 (by omega) (a := k + 1) (b := l.length) (by omega) (by omega)
    rw [List.take_length] at r2
    have hlen2 : (l.drop (k + 1)).length = l.length - (k + 1) := by simp
    have hc1 := hp1.cap
    refine go_call rfl rfl (ih (l.drop (k + 1)) _ _ w1 lo p q1 B (by omega) (by omega) t2 ha1 hp1.rel (by omega) (Nat.le_trans hlo hf1.size) hq1 r2) ?_
    rintro _ w2 ⟨C, tr, q2, rfl, ha2, hp2, gr2⟩
    have gr12 := gr1.trans gr2
    have hq2 := gr12.lo hlo hq
    have f2 := hp2.fresh
    have hc2 := hp2.cap
    obtain ⟨hE, hI, hL, hR, hP⟩ := Plt.make (k := l[k].1) (v := l[k].2) hp1 hp2 ha.wf ha1.wf ha2.wf (by omega) (by rw [hlen1, hlen2]; rwa [show l.length - 1 - k = l.length - (k + 1) by omega] at hbal)
    have hdec : l.take k ++ (l[k].1, l[k].2) :: l.drop (k + 1) = l := by
      show l.take k ++ l[k] :: l.drop (k + 1) = l
      rw [← List.drop_eq_getElem_cons hk, List.take_append_drop]
    rw [hdec] at hP
    have hf12 := gr12.fr
    have hr2 := hr.fr hf12 gr12.nw
    obtain ⟨b, o, hsa, hbl, hcell⟩ := hr2.u.at hm2 (by omega) hk
    have hbq : ¬ q2.fp b := by
      obtain ⟨sz, cz, ez, _, _, hz⟩ := hr2
      simp only [Value.slice.injEq] at ez
      exact (hz b o (by rw [← ez.1]; exact hsa) (by intro e; rw [e] at h0; simp at h0)).2
    subst hsa
    have e0 := hcell 0 (.int .i64 l[k].1) rfl
    have e1 := hcell 1 (.int .i64 l[k].2) rfl
    have hcM2 := ha2.wf.capM
    have hfr2 := ha2.wf.fr
    have bl : tl.root ≤ 65536 := by rcases hp1.rt with e | e <;> omega
    have br : tr.root ≤ 65536 := by rcases hp2.rt with e | e <;> omega
    generalize l[k] = x at *
    repeat (first | refine sp ?_ | (refine is_load ?_; refine ld ?_) | (refine is_store ?_; refine sr ?_) | (refine is_alloc ?_; refine al ?_) | (refine is_box ?_; refine bx ?_) | (refine isl_load ?_; refine ldl ?_) | (refine isl_store ?_; refine srl ?_) | (refine isl_alloc ?_; refine all' ?_) | (refine isl_box ?_; refine bxl ?_))
    (refine go_draw (Fr q2.fp w2) Try.follows (by kernel_rfl) (by kernel_rfl) ?_ ?_)
    · exact (Fr.refl _ _).drewN 1
    repeat (first | refine sp ?_ | (refine is_load ?_; refine ld ?_) | (refine is_store ?_; refine sr ?_) | (refine is_alloc ?_; refine al ?_) | (refine is_box ?_; refine bx ?_) | (refine isl_load ?_; refine ldl ?_) | (refine isl_store ?_; refine srl ?_) | (refine isl_alloc ?_; refine all' ?_) | (refine isl_box ?_; refine bxl ?_))
    have hlo2 := Nat.le_trans hlo hf12.size
    refine gol_call rfl rfl (p_Make _ lo p q2 C x.1 x.2 tl.root tr.root (ha2.ext (by (repeat (first | exact Fr.refl _ _ | assumption | apply Fr.drewN | apply Fr.alloc | (apply Fr.transF; assumption) | (refine Fr.setRow ?_ _ (by first | exact Or.inr (by (first | omega | (simp; done) | (simp; omega))) | (exact Or.inl (by first | assumption | (simp; done))))))))) (by omega) (by omega)) ?_
    rintro _ w3 ⟨rfl, q3, ha3, hq3, hf3⟩
    rw [hE, hI]
    have gr3 : Gr q2 q3 w2 w3 := (Gr.ext ((Fr.refl _ _).drewN 1)).trans ⟨hq3, hf3⟩
    refine ⟨gr3.fr, ?_⟩
    have gr123 := gr12.trans gr3
    repeat (first | refine sp ?_ | (refine is_load ?_; refine ld ?_) | (refine is_store ?_; refine sr ?_) | (refine is_alloc ?_; refine al ?_) | (refine is_box ?_; refine bx ?_) | (refine isl_load ?_; refine ldl ?_) | (refine isl_store ?_; refine srl ?_) | (refine isl_alloc ?_; refine all' ?_) | (refine isl_box ?_; refine bxl ?_) | refine dr Try.follows ?_)
    refine go_call rfl rfl (p_RelKid w3 lo p q3 _ tl.root ha3 (Nat.le_trans hlo gr123.fr.size) (by omega) hL) ?_
    rintro _ w4 ⟨rfl, q4, ha4, hq4, hf4⟩
    have gr4 := gr123.trans ⟨hq4, hf4⟩
    repeat (first | refine sp ?_ | (refine is_load ?_; refine ld ?_) | (refine is_store ?_; refine sr ?_) | (refine is_alloc ?_; refine al ?_) | (refine is_box ?_; refine bx ?_) | (refine isl_load ?_; refine ldl ?_) | (refine isl_store ?_; refine srl ?_) | (refine isl_alloc ?_; refine all' ?_) | (refine isl_box ?_; refine bxl ?_) | refine dr Try.follows ?_)
    refine go_call rfl rfl (p_RelKid w4 lo p q4 _ tr.root ha4 (Nat.le_trans hlo gr4.fr.size) (by omega) hR) ?_
    rintro _ w5 ⟨rfl, q5, ha5, hq5, hf5⟩
    repeat (first | refine sp ?_ | (refine is_load ?_; refine ld ?_) | (refine is_store ?_; refine sr ?_) | (refine is_alloc ?_; refine al ?_) | (refine is_box ?_; refine bx ?_) | (refine isl_load ?_; refine ldl ?_) | (refine isl_store ?_; refine srl ?_) | (refine isl_alloc ?_; refine all' ?_) | (refine isl_box ?_; refine bxl ?_) | refine dr Try.follows ?_)
    exact go_ret2 rfl rfl rfl ⟨_, rfl, _, _, q5, rfl, ha5, hP, gr4.trans ⟨hq5, hf5⟩⟩

end Go.Proofs.Yteghhalnpdikoaa
