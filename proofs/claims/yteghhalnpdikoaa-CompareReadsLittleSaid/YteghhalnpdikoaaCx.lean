/-
  The functions of one side: push, top, pop, expand.
-/
import Derived.Test.YteghhalnpdikoaaCw
set_option linter.unusedVariables false
namespace Go.Proofs.Yteghhalnpdikoaa
open Go.Vc

theorem t_top0 (w : World) (lo b : Nat) (v : Value) (h : SdAt w lo b v []) :
    Calls Try.prog 90 [ptr b].toArray w (Ret fun r w' => r = .tuple #[.agg ⟨[.int .u32 0, .int .i64 0, .int .i64 0, .int .i64 0, .bool false]⟩, .bool false] ∧ Ext w w') := by
  have hb := h.at'
  obtain ⟨sv, cv, rfl, _, _⟩ := Own.slice h.own
  have hl := hb.lt
  refine calls_go Try.func90 rfl Try.ntmps90 (Nat.le_of_ble_eq_true rfl) ?_
  repeat (first | refine sp ?_ | (refine is_load ?_; refine ld ?_) | (refine is_store ?_; refine sr ?_) | (refine is_alloc ?_; refine al ?_) | (refine is_box ?_; refine bx ?_) | (refine isl_load ?_; refine ldl ?_) | (refine isl_store ?_; refine srl ?_) | (refine isl_alloc ?_; refine all' ?_) | (refine isl_box ?_; refine bxl ?_))
  exact go_ret2 rfl ⟨_, rfl, Ld.run (ld_part (by (repeat (first | assumption | (refine At.new' (by (first | omega | (simp; done) | (simp; omega))) _ _) | apply At.alloc | apply At.drewN | apply At.setRow | (apply At.setRow_neF; first | assumption | (apply Ne.symm; assumption) | omega) | (apply At.extF; assumption)))) rfl rfl)⟩ rfl ⟨_, rfl, rfl, by (repeat (first | exact Fr.refl _ _ | assumption | apply Fr.drewN | apply Fr.alloc | (apply Fr.transF; assumption) | (refine Fr.setRow ?_ _ (by first | exact Or.inr (by (first | omega | (simp; done) | (simp; omega))) | (exact Or.inl (by first | assumption | (simp; done)))))))⟩

theorem Itm.lit (x : Itm) : ∃ (a b c d : Int) (e : Bool), x.cells = [.int .u32 a, .int .i64 b, .int .i64 c, .int .i64 d, .bool e] := by
  cases x
  · exact ⟨_, _, _, _, _, rfl⟩
  · exact ⟨_, _, _, _, _, rfl⟩

theorem t_top (w : World) (lo b : Nat) (v : Value) (P : List Itm) (x : Itm) (h : SdAt w lo b v (P ++ [x])) (hl : P.length ≤ 10000) :
    Calls Try.prog 90 [ptr b].toArray w (Ret fun r w' => r = .tuple #[.agg ⟨x.cells⟩, .bool true] ∧ Ext w w') := by
  have hb := h.at'
  have ho := h.own
  unfold OwnI at ho
  rw [List.flatMap_append, List.length_append] at ho
  obtain ⟨g, cap, rfl, hg, hc, hcell, _⟩ := Own.popG (ys := x.cells) (by simpa using ho) x.len
  have hl2 := hb.lt
  refine calls_go Try.func90 rfl Try.ntmps90 (Nat.le_of_ble_eq_true rfl) ?_
  obtain ⟨c0, c1, c2, c3, c4, hx⟩ := x.lit
  rw [hx] at hcell ⊢
  repeat (first | refine sp ?_ | (refine is_load ?_; refine ld ?_) | (refine is_store ?_; refine sr ?_) | (refine is_alloc ?_; refine al ?_) | (refine is_box ?_; refine bx ?_) | (refine isl_load ?_; refine ldl ?_) | (refine isl_store ?_; refine srl ?_) | (refine isl_alloc ?_; refine all' ?_) | (refine isl_box ?_; refine bxl ?_))
  refine go_name (F := fun w1 => At w1 b [Value.slice (some ⟨g, 0, none⟩) (P.length + 1) cap] 138 ∧ At w1 w.heap.size [.int .u32 0, .int .i64 0, .int .i64 0, .int .i64 0, .bool false] 141 ∧ (∀ (j : Nat) (u : Value), ([Value.int .u32 c0, .int .i64 c1, .int .i64 c2, .int .i64 c3, .bool c4] : List Value)[j]? = some u → w1.cell? ⟨g, 0 + P.length * 5 + j, none⟩ = some u) ∧ Ext w w1) ⟨by (repeat (first | assumption | (refine At.new' (by (first | omega | (simp; done) | (simp; omega))) _ _) | apply At.alloc | apply At.drewN | apply At.setRow | (apply At.setRow_neF; first | assumption | (apply Ne.symm; assumption) | omega) | (apply At.extF; assumption))), by (repeat (first | assumption | (refine At.new' (by (first | omega | (simp; done) | (simp; omega))) _ _) | apply At.alloc | apply At.drewN | apply At.setRow | (apply At.setRow_neF; first | assumption | (apply Ne.symm; assumption) | omega) | (apply At.extF; assumption))), fun j u hj => Fr.cell (S := fun _ => False) (by (repeat (first | exact Fr.refl _ _ | assumption | apply Fr.drewN | apply Fr.alloc | (apply Fr.transF; assumption) | (refine Fr.setRow ?_ _ (by first | exact Or.inr (by (first | omega | (simp; done) | (simp; omega))) | (exact Or.inl (by first | assumption | (simp; done)))))))) (hcell j u hj) id, by (repeat (first | exact Fr.refl _ _ | assumption | apply Fr.drewN | apply Fr.alloc | (apply Fr.transF; assumption) | (refine Fr.setRow ?_ _ (by first | exact Or.inr (by (first | omega | (simp; done) | (simp; omega))) | (exact Or.inl (by first | assumption | (simp; done)))))))⟩ ?_
  rintro w1 ⟨hb1, hr1, hcell1, hx1⟩
  repeat (first | refine sp ?_ | (refine is_load ?_; refine ld ?_) | (refine is_store ?_; refine sr ?_) | (refine is_alloc ?_; refine al ?_) | (refine is_box ?_; refine bx ?_) | (refine isl_load ?_; refine ldl ?_) | (refine isl_store ?_; refine srl ?_) | (refine isl_alloc ?_; refine all' ?_) | (refine isl_box ?_; refine bxl ?_))
  refine go_drawE (Fr (fun _ => False) w1) 2 Try.follows (by kernel_rfl) (by kernel_rfl) (by kernel_rfl) ((Fr.refl _ _).drewN 1) ?_
  repeat (first | refine sp ?_ | (refine is_load ?_; refine ld ?_) | (refine is_store ?_; refine sr ?_) | (refine is_alloc ?_; refine al ?_) | (refine is_box ?_; refine bx ?_) | (refine isl_load ?_; refine ldl ?_) | (refine isl_store ?_; refine srl ?_) | (refine isl_alloc ?_; refine all' ?_) | (refine isl_box ?_; refine bxl ?_))
  refine go_as 20 (u' := .int .i64 (P.length : Int)) rfl (by congr 1; omega) ?_
  repeat (first | refine sp ?_ | (refine is_load ?_; refine ld ?_) | (refine is_store ?_; refine sr ?_) | (refine is_alloc ?_; refine al ?_) | (refine is_box ?_; refine bx ?_) | (refine isl_load ?_; refine ldl ?_) | (refine isl_store ?_; refine srl ?_) | (refine isl_alloc ?_; refine all' ?_) | (refine isl_box ?_; refine bxl ?_))
  refine gol_load (v := .agg [Value.int .u32 c0, .int .i64 c1, .int .i64 c2, .int .i64 c3, .bool c4].toArray) rfl rfl (ldD_cells (m := 5) (w := w1) rfl (by decide) (fun j u hj => by rw [addr_add]; exact hcell1 j u hj) id) ?_
  repeat (first | refine sp ?_ | (refine is_load ?_; refine ld ?_) | (refine is_store ?_; refine sr ?_) | (refine is_alloc ?_; refine al ?_) | (refine is_box ?_; refine bx ?_) | (refine isl_load ?_; refine ldl ?_) | (refine isl_store ?_; refine srl ?_) | (refine isl_alloc ?_; refine all' ?_) | (refine isl_box ?_; refine bxl ?_))
  have hgw : g ≠ w.heap.size := by have := (Own.block_lt h.own (g := g) rfl).1; omega
  exact go_ret2 rfl ⟨_, rfl, Ld.run (ld_part (by (repeat (first | assumption | (refine At.new' (by (first | omega | (simp; done) | (simp; omega))) _ _) | apply At.alloc | apply At.drewN | apply At.setRow | (apply At.setRow_neF; first | assumption | (apply Ne.symm; assumption) | omega) | (apply At.extF; assumption)))) rfl rfl)⟩ rfl ⟨_, rfl, rfl, by (repeat (first | exact Fr.refl _ _ | assumption | apply Fr.drewN | apply Fr.alloc | (apply Fr.transF; assumption) | (refine Fr.setRow ?_ _ (by first | exact Or.inr (by (first | omega | (simp; done) | (simp; omega))) | (exact Or.inl (by first | assumption | (simp; done)))))))⟩

theorem t_pop (w : World) (lo b : Nat) (v : Value) (P : List Itm) (x : Itm) (h : SdAt w lo b v (P ++ [x])) (hl : P.length ≤ 10000) :
    Calls Try.prog 91 [ptr b].toArray w (Ret fun r w' => r = .tuple #[] ∧ ∃ v', SdAt w' lo b v' P ∧ (∀ x, v'.ownBlock = some x → v.ownBlock = some x) ∧ Fr (fun x => x = b) w w') := by
  have hb := h.at'
  have ho := h.own
  unfold OwnI at ho
  rw [List.flatMap_append, List.length_append] at ho
  obtain ⟨g, cap, rfl, hg, hc, hcell, ho2⟩ := Own.popG (ys := x.cells) (by simpa using ho) x.len
  have hl2 := hb.lt
  have hnb := h.b
  refine calls_go Try.func91 rfl Try.ntmps91 (Nat.le_of_ble_eq_true rfl) ?_
  repeat (first | refine sp ?_ | (refine is_load ?_; refine ld ?_) | (refine is_store ?_; refine sr ?_) | (refine is_alloc ?_; refine al ?_) | (refine is_box ?_; refine bx ?_) | (refine isl_load ?_; refine ldl ?_) | (refine isl_store ?_; refine srl ?_) | (refine isl_alloc ?_; refine all' ?_) | (refine isl_box ?_; refine bxl ?_) | refine go_drawE (Fr (fun _ => False) _) 1 Try.follows (by kernel_rfl) (by kernel_rfl) (by kernel_rfl) ((Fr.refl _ _).drewN 1) ?_)
  refine go_as 12 (u' := .int .i64 (P.length : Int)) rfl (by congr 1; omega) ?_
  refine gol_p rfl rfl (pr_sl (lo := 0) (hi := P.length) (by decide) rfl rfl ⟨_, _, rfl, rfl⟩ (by omega) (by omega)) ?_
  rw [cutA0]
  repeat (first | refine sp ?_ | (refine is_load ?_; refine ld ?_) | (refine is_store ?_; refine sr ?_) | (refine is_alloc ?_; refine al ?_) | (refine is_box ?_; refine bx ?_) | (refine isl_load ?_; refine ldl ?_) | (refine isl_store ?_; refine srl ?_) | (refine isl_alloc ?_; refine all' ?_) | (refine isl_box ?_; refine bxl ?_))
  have hg2 : g ≠ b := fun e => hnb (by rw [e]; rfl)
  exact go_end0 rfl ⟨_, rfl, rfl, _, ⟨by (repeat (first | assumption | (refine At.new' (by (first | omega | (simp; done) | (simp; omega))) _ _) | apply At.alloc | apply At.drewN | apply At.setRow | (apply At.setRow_neF; first | assumption | (apply Ne.symm; assumption) | omega) | (apply At.extF; assumption))), Own.of_heap ho2 fun x hx => by
    have e : g = x := by simpa [Value.ownBlock] using hx
    subst e
    exact setRow_other _ _ _ _ hg2⟩, fun x hx => hx, by (repeat (first | exact Fr.refl _ _ | assumption | apply Fr.drewN | apply Fr.alloc | (apply Fr.transF; assumption) | (refine Fr.setRow ?_ _ (by first | exact Or.inr (by (first | omega | (simp; done) | (simp; omega))) | (exact Or.inl (by first | assumption | (simp; done)))))))⟩

theorem t_push (w : World) (lo0 lo p b : Nat) (q : AP) (A : AR) (v : Value) (P : List Itm) (t : Tr) (h : SdAt w lo0 b v P) (ha : ArP w lo p q A) (hd : ∀ x, (x = b ∨ v.ownBlock = some x) → ¬ q.fp x) (hlo : lo0 ≤ w.heap.size) (hl : P.length ≤ 10000) (ht : InA A t) (hs : t.sz ≤ 1000000) :
    Calls Try.prog 89 [ptr b, ptr p, .int .u32 (t.root : Int)].toArray w (Ret fun r w' => r = .tuple #[] ∧ ∃ v' A', SdAt w' lo0 b v' (psh P t) ∧ ArP w' lo p q A' ∧ Rds A A' 1 ∧ (∀ x, v'.ownBlock = some x → v.ownBlock = some x ∨ w.heap.size ≤ x) ∧ Fr (fun x => x = b ∨ x = p ∨ v.ownBlock = some x) w w') := by
  have hb := h.at'
  have ho := h.own
  obtain ⟨sv, cv, rfl, hc, _⟩ := Own.slice h.own
  have hl2 := hb.lt
  have hnb := h.b
  have hpq : b ≠ p := fun e => hd b (Or.inl rfl) (e ▸ ha.fpp)
  have hrt := ht.rootlt ha.wf
  refine calls_go Try.func89 rfl Try.ntmps89 (Nat.le_of_ble_eq_true rfl) ?_
  by_cases h0 : t.root = 0
  · have e : psh P t = P := by unfold psh; rw [if_pos h0]
    rw [e, h0]
    repeat (first | refine sp ?_ | (refine is_load ?_; refine ld ?_) | (refine is_store ?_; refine sr ?_) | (refine is_alloc ?_; refine al ?_) | (refine is_box ?_; refine bx ?_) | (refine isl_load ?_; refine ldl ?_) | (refine isl_store ?_; refine srl ?_) | (refine isl_alloc ?_; refine all' ?_) | (refine isl_box ?_; refine bxl ?_))
    exact go_end0 rfl ⟨_, rfl, rfl, _, A, h, ha, Rds.refl _ _, fun x hx => Or.inl hx, by (repeat (first | exact Fr.refl _ _ | assumption | apply Fr.drewN | apply Fr.alloc | (apply Fr.transF; assumption) | (refine Fr.setRow ?_ _ (by first | exact Or.inr (by (first | omega | (simp; done) | (simp; omega))) | (exact Or.inl (by first | assumption | (simp; done)))))))⟩
  · have e : psh P t = P ++ [.tr t] := by unfold psh; rw [if_neg h0]
    rw [e]
    repeat (first | refine sp ?_ | (refine is_load ?_; refine ld ?_) | (refine is_store ?_; refine sr ?_) | (refine is_alloc ?_; refine al ?_) | (refine is_box ?_; refine bx ?_) | (refine isl_load ?_; refine ldl ?_) | (refine isl_store ?_; refine srl ?_) | (refine isl_alloc ?_; refine all' ?_) | (refine isl_box ?_; refine bxl ?_))
    refine go_drawE (Fr (fun x => x = p ∨ (Value.slice sv P.length cv).ownBlock = some x) w) 1 Try.follows (by kernel_rfl) (by kernel_rfl) (by kernel_rfl) ((Fr.refl _ _).drewN 1) ?_
    repeat (first | refine sp ?_ | (refine is_load ?_; refine ld ?_) | (refine is_store ?_; refine sr ?_) | (refine is_alloc ?_; refine al ?_) | (refine is_box ?_; refine bx ?_) | (refine isl_load ?_; refine ldl ?_) | (refine isl_store ?_; refine srl ?_) | (refine isl_alloc ?_; refine all' ?_) | (refine isl_box ?_; refine bxl ?_))
    have hnS : ¬ (b = p ∨ (Value.slice sv P.length cv).ownBlock = some b) := fun e => e.elim hpq hnb
    refine gol_load rfl rfl (ldD_at hb hnS rfl) ?_
    repeat (first | refine sp ?_ | (refine is_load ?_; refine ld ?_) | (refine is_store ?_; refine sr ?_) | (refine is_alloc ?_; refine al ?_) | (refine is_box ?_; refine bx ?_) | (refine isl_load ?_; refine ldl ?_) | (refine isl_store ?_; refine srl ?_) | (refine isl_alloc ?_; refine all' ?_) | (refine isl_box ?_; refine bxl ?_))
    refine gol_call rfl rfl (p_Size _ lo p q A t.root (ha.ext (by (repeat (first | exact Fr.refl _ _ | assumption | apply Fr.drewN | apply Fr.alloc | (apply Fr.transF; assumption) | (refine Fr.setRow ?_ _ (by first | exact Or.inr (by (first | omega | (simp; done) | (simp; omega))) | (exact Or.inl (by first | assumption | (simp; done))))))))) hrt) ?_
    rintro _ w1 ⟨rfl, ha1, hf1⟩
    have hD1 : Fr (fun x => x = p ∨ (Value.slice sv P.length cv).ownBlock = some x) w w1 := Fr.trans (by (repeat (first | exact Fr.refl _ _ | assumption | apply Fr.drewN | apply Fr.alloc | (apply Fr.transF; assumption) | (refine Fr.setRow ?_ _ (by first | exact Or.inr (by (first | omega | (simp; done) | (simp; omega))) | (exact Or.inl (by first | assumption | (simp; done)))))))) (hf1.mono fun x e => Or.inl e)
    refine ⟨hD1, ?_⟩
    rw [ht.sizeOf ha.wf (by omega)]
    have hs1 := hD1.size
    have ho1 : OwnI w1 lo0 (Value.slice sv P.length cv) P := Own.of_heap ho fun g hg => hf1.block g (by have := (Own.block_lt ho hg).1; simpa using this) (fun e => hd g (Or.inr hg) (e ▸ ha.fpp))
    repeat (first | refine sp ?_ | (refine is_load ?_; refine ld ?_) | (refine is_store ?_; refine sr ?_) | (refine is_alloc ?_; refine al ?_) | (refine is_box ?_; refine bx ?_) | (refine isl_load ?_; refine ldl ?_) | (refine isl_store ?_; refine srl ?_) | (refine isl_alloc ?_; refine all' ?_) | (refine isl_box ?_; refine bxl ?_))
    refine gol_litG (l := (Itm.tr t).cells) rfl rfl (by decide) (by decide) rfl (by show Fr _ _ _; (repeat (first | exact Fr.refl _ _ | assumption | apply Fr.drewN | apply Fr.alloc | (apply Fr.transF; assumption) | (refine Fr.setRow ?_ _ (by first | exact Or.inr (by (first | omega | (simp; done) | (simp; omega))) | (exact Or.inl (by first | assumption | (simp; done)))))))) ?_
    repeat (first | refine sp ?_ | (refine is_load ?_; refine ld ?_) | (refine is_store ?_; refine sr ?_) | (refine is_alloc ?_; refine al ?_) | (refine is_box ?_; refine bx ?_) | (refine isl_load ?_; refine ldl ?_) | (refine isl_store ?_; refine srl ?_) | (refine isl_alloc ?_; refine all' ?_) | (refine isl_box ?_; refine bxl ?_))
    have hx1 : Ext w1 (w1.alloc (.cells (Itm.tr t).cells.toArray 141)) := (Fr.refl _ _).alloc _
    have hat := At.new w1 (Itm.tr t).cells 141
    have hb1 := hb.fr hD1 hnS
    refine gol_appendG (r := 1) (sa := some ⟨w1.heap.size, 0, none⟩) (news := (Itm.tr t).cells) (by decide) rfl rfl rfl (Own.ext ho1 hx1) (by
      intro j u hj
      exact ⟨_, _, rfl, by have := hat.cell (i := j) (v := u) hj; simpa using this⟩) rfl (Itm.cell1 _) (by simp [maxLen]; omega) (by omega) (by simp; omega) ?_
    intro v2 w2 ho2 hg2 hbk
    have hf2 := Fr.of_grown hg2
    have hD2 : Fr (fun x => x = p ∨ (Value.slice sv P.length cv).ownBlock = some x) w w2 := hD1.trans ((hx1.mono fun _ e => e.elim).trans (hf2.mono fun x e => Or.inr e))
    refine ⟨hD2, ?_⟩
    have hb2 : At w2 b [Value.slice sv P.length cv] 138 := hb.fr hD2 hnS
    have hs2 := hg2.size
    simp at hs2
    have ho3 : OwnI w2 lo0 v2 (P ++ [.tr t]) := by
      unfold OwnI
      rw [List.flatMap_append, List.length_append]
      simpa using ho2
    have hat2 : ArP w2 lo p q (A.read t.root) := ha1.fr ((hx1.mono fun _ e => e.elim).trans hf2) fun x hx e => hd x (Or.inr e) hx
    obtain ⟨s3, c3, rfl, _, _⟩ := Own.slice ho3
    repeat (first | refine sp ?_ | (refine is_load ?_; refine ld ?_) | (refine is_store ?_; refine sr ?_) | (refine is_alloc ?_; refine al ?_) | (refine is_box ?_; refine bx ?_) | (refine isl_load ?_; refine ldl ?_) | (refine isl_store ?_; refine srl ?_) | (refine isl_alloc ?_; refine all' ?_) | (refine isl_box ?_; refine bxl ?_))
    have hb3 : ∀ x, (Value.slice s3 (P ++ [Itm.tr t]).length c3).ownBlock = some x → x ≠ b := fun x hx e => ho3.nec hb2 (by decide) (e ▸ hx)
    exact go_end0 rfl ⟨_, rfl, rfl, _, _, ⟨by (repeat (first | assumption | (refine At.new' (by (first | omega | (simp; done) | (simp; omega))) _ _) | apply At.alloc | apply At.drewN | apply At.setRow | (apply At.setRow_neF; first | assumption | (apply Ne.symm; assumption) | omega) | (apply At.extF; assumption))), Own.of_heap ho3 fun x hx => setRow_other _ _ _ _ (hb3 x hx)⟩, hat2.fr (S := fun x => x = b) (by (repeat (first | exact Fr.refl _ _ | assumption | apply Fr.drewN | apply Fr.alloc | (apply Fr.transF; assumption) | (refine Fr.setRow ?_ _ (by first | exact Or.inr (by (first | omega | (simp; done) | (simp; omega))) | (exact Or.inl (by first | assumption | (simp; done)))))))) (fun x hx e => hd x (Or.inl e) hx), Rds.read _ _, fun x hx => (hbk x hx).imp id (fun h => by simp at h; omega), Fr.setRow (hD2.mono fun x e => Or.inr e) _ (Or.inl (Or.inl rfl))⟩

set_option maxHeartbeats 1000000 in
theorem t_expand (w : World) (lo0 lo p b : Nat) (q : AP) (A : AR) (v : Value) (P : List Itm) (i : Nat) (l : Tr) (k v0 : Int) (r : Tr) (h : SdAt w lo0 b v (P ++ [.tr (.nd i l k v0 r)])) (ha : ArP w lo p q A) (hd : ∀ x, (x = b ∨ v.ownBlock = some x) → ¬ q.fp x) (hlo : lo0 ≤ w.heap.size) (hl : P.length ≤ 9000) (ht : InA A (.nd i l k v0 r)) (hs : (Tr.nd i l k v0 r).sz ≤ 1000000) :
    Calls Try.prog 92 [ptr b, ptr p].toArray w (Ret fun x w' => x = .tuple #[] ∧ ∃ v' A', SdAt w' lo0 b v' (psh (psh P r ++ [.one (k, v0)]) l) ∧ ArP w' lo p q A' ∧ (∃ n, Rds A A' n) ∧ (∀ x, v'.ownBlock = some x → v.ownBlock = some x ∨ w.heap.size ≤ x) ∧ Fr (fun x => x = b ∨ x = p ∨ v.ownBlock = some x) w w') := by
  have hbl := h.at'.lt
  have hpq : b ≠ p := fun e => hd b (Or.inl rfl) (e ▸ ha.fpp)
  obtain ⟨hri, hrl, hrr⟩ := ht.roots ha.wf
  have hkn : A.nodeOf i = mkN A k v0 l.root r.root := ht.nodeOf
  have hlr := mkN_lr A k v0 l.root r.root
  rw [← hkn] at hlr
  have hui : A.used i = true := ht.2.1
  have hsz : (Tr.nd i l k v0 r).sz = l.sz + 1 + r.sz := rfl
  have hpl : ∀ t, (psh P t).length ≤ P.length + 1 := fun t => by unfold psh; split <;> simp
  refine calls_go Try.func92 rfl Try.ntmps92 (Nat.le_of_ble_eq_true rfl) ?_
  repeat (first | refine sp ?_ | (refine is_load ?_; refine ld ?_) | (refine is_store ?_; refine sr ?_) | (refine is_alloc ?_; refine al ?_) | (refine is_box ?_; refine bx ?_) | (refine isl_load ?_; refine ldl ?_) | (refine isl_store ?_; refine srl ?_) | (refine isl_alloc ?_; refine all' ?_) | (refine isl_box ?_; refine bxl ?_))
  refine go_call rfl rfl (t_top w lo0 b v P _ h (by omega)) ?_
  rintro _ w1 ⟨rfl, hx1⟩
  have hs1 := hx1.size
  rw [show (Itm.tr (Tr.nd i l k v0 r)).cells = [.int .u32 (i : Int), .int .i64 ((Tr.nd i l k v0 r).sz : Int), .int .i64 0, .int .i64 0, .bool false] from rfl]
  repeat (first | refine sp ?_ | (refine is_load ?_; refine ld ?_) | (refine is_store ?_; refine sr ?_) | (refine is_alloc ?_; refine al ?_) | (refine is_box ?_; refine bx ?_) | (refine isl_load ?_; refine ldl ?_) | (refine isl_store ?_; refine srl ?_) | (refine isl_alloc ?_; refine all' ?_) | (refine isl_box ?_; refine bxl ?_))
  refine go_name (F := fun w2 => At w2 w1.heap.size [.int .u32 (i : Int), .int .i64 ((Tr.nd i l k v0 r).sz : Int), .int .i64 0, .int .i64 0, .bool false] 141 ∧ Ext w1 w2) ⟨by (repeat (first | assumption | (refine At.new' (by (first | omega | (simp; done) | (simp; omega))) _ _) | apply At.alloc | apply At.drewN | apply At.setRow | (apply At.setRow_neF; first | assumption | (apply Ne.symm; assumption) | omega) | (apply At.extF; assumption))), by (repeat (first | exact Fr.refl _ _ | assumption | apply Fr.drewN | apply Fr.alloc | (apply Fr.transF; assumption) | (refine Fr.setRow ?_ _ (by first | exact Or.inr (by (first | omega | (simp; done) | (simp; omega))) | (exact Or.inl (by first | assumption | (simp; done)))))))⟩ ?_
  rintro w2 ⟨hc2, hx2⟩
  have hx12 := hx1.trans hx2
  refine go_call rfl rfl (t_pop w2 lo0 b v P _ (h.ext hx12) (by omega)) ?_
  rintro _ w3 ⟨rfl, v3, h3, hv3, hf3⟩
  have hc3 := hc2.fr hf3 (by omega)
  have ha3 : ArP w3 lo p q A := (ha.ext hx12).fr hf3 fun x hx e => hd x (Or.inl e) hx
  have hs2 := hx2.size
  have hs3 := hf3.size
  repeat (first | refine sp ?_ | (refine is_load ?_; refine ld ?_) | (refine is_store ?_; refine sr ?_) | (refine is_alloc ?_; refine al ?_) | (refine is_box ?_; refine bx ?_) | (refine isl_load ?_; refine ldl ?_) | (refine isl_store ?_; refine srl ?_) | (refine isl_alloc ?_; refine all' ?_) | (refine isl_box ?_; refine bxl ?_))
  refine go_call rfl rfl (p_Node w3 lo p q A i ha3 hri) ?_
  rintro _ w4 ⟨rfl, ha4, hf4⟩
  have hs4 := hf4.size
  rw [hui]
  obtain ⟨N, hN⟩ : ∃ N, A.nodeOf i = N := ⟨_, rfl⟩
  rw [hN] at hlr ⊢
  unfold Nd.cells
  rw [hlr.2.2.1, hlr.2.2.2, hlr.1, hlr.2.1]
  have hp3 := ha3.lt p ha3.fpp
  have h4 : SdAt w4 lo0 b v3 P := h3.fr hf4 hpq fun x hx e => hd x (Or.inr (hv3 x hx)) (e ▸ ha.fpp)
  repeat (first | refine sp ?_ | (refine is_load ?_; refine ld ?_) | (refine is_store ?_; refine sr ?_) | (refine is_alloc ?_; refine al ?_) | (refine is_box ?_; refine bx ?_) | (refine isl_load ?_; refine ldl ?_) | (refine isl_store ?_; refine srl ?_) | (refine isl_alloc ?_; refine all' ?_) | (refine isl_box ?_; refine bxl ?_))
  refine go_name (F := fun w5 => At w5 w4.heap.size [.int .i64 k, .int .i64 v0, .int .u32 (l.root : Int), .int .u32 (r.root : Int), .int .i64 N.size, .int .i64 N.sum, .int .i64 N.mn, .int .i64 N.mx] 102 ∧ Ext w4 w5) ⟨by (repeat (first | assumption | (refine At.new' (by (first | omega | (simp; done) | (simp; omega))) _ _) | apply At.alloc | apply At.drewN | apply At.setRow | (apply At.setRow_neF; first | assumption | (apply Ne.symm; assumption) | omega) | (apply At.extF; assumption))), by (repeat (first | exact Fr.refl _ _ | assumption | apply Fr.drewN | apply Fr.alloc | (apply Fr.transF; assumption) | (refine Fr.setRow ?_ _ (by first | exact Or.inr (by (first | omega | (simp; done) | (simp; omega))) | (exact Or.inl (by first | assumption | (simp; done)))))))⟩ ?_
  rintro w5 ⟨hc5, hx5⟩
  have hs5 := hx5.size
  have hl5 := hc5.lt
  have ha5 := ha4.ext hx5
  have h5 := h4.ext hx5
  repeat (first | refine sp ?_ | (refine is_load ?_; refine ld ?_) | (refine is_store ?_; refine sr ?_) | (refine is_alloc ?_; refine al ?_) | (refine is_box ?_; refine bx ?_) | (refine isl_load ?_; refine ldl ?_) | (refine isl_store ?_; refine srl ?_) | (refine isl_alloc ?_; refine all' ?_) | (refine isl_box ?_; refine bxl ?_))
  refine go_call rfl rfl (t_push w5 lo0 lo p b q _ v3 P r h5 ha5 (fun x hx => hd x (hx.imp id (hv3 x))) (by omega) (by omega) (ht.2.2.2.2.read i) (by omega)) ?_
  rintro _ w6 ⟨rfl, v6, A6, h6, ha6, hr6, hv6, hf6⟩
  have hs6 := hf6.size
  have hc6 := hc5.fr hf6 (by
    rintro (e | e | e)
    · omega
    · omega
    · exact h5.own.nec hc5 (by decide) e)
  have hd6 : ∀ x, (x = b ∨ v6.ownBlock = some x) → ¬ q.fp x := fun x hx hfp => by
    rcases hx with e | e
    · exact hd x (Or.inl e) hfp
    · rcases hv6 x e with e | e
      · exact hd x (Or.inr (hv3 x e)) hfp
      · have := ha5.lt x hfp; omega
  have hb6 := h6.at'
  obtain ⟨sv, cv, rfl, _, _⟩ := Own.slice h6.own
  have hnb6 := h6.b
  have hl6 := hpl r
  have hnN6 := h6.own.nec hc6 (by decide)
  repeat (first | refine sp ?_ | (refine is_load ?_; refine ld ?_) | (refine is_store ?_; refine sr ?_) | (refine is_alloc ?_; refine al ?_) | (refine is_box ?_; refine bx ?_) | (refine isl_load ?_; refine ldl ?_) | (refine isl_store ?_; refine srl ?_) | (refine isl_alloc ?_; refine all' ?_) | (refine isl_box ?_; refine bxl ?_))
  refine go_drawE (Fr (fun x => (Value.slice sv (psh P r).length cv).ownBlock = some x) w6) 1 Try.follows (by kernel_rfl) (by kernel_rfl) (by kernel_rfl) ((Fr.refl _ _).drewN 1) ?_
  repeat (first | refine sp ?_ | (refine is_load ?_; refine ld ?_) | (refine is_store ?_; refine sr ?_) | (refine is_alloc ?_; refine al ?_) | (refine is_box ?_; refine bx ?_) | (refine isl_load ?_; refine ldl ?_) | (refine isl_store ?_; refine srl ?_) | (refine isl_alloc ?_; refine all' ?_) | (refine isl_box ?_; refine bxl ?_))
  refine gol_litG (l := (Itm.one (k, v0)).cells) rfl rfl (by decide) (by decide) rfl (by show Fr _ _ _; (repeat (first | exact Fr.refl _ _ | assumption | apply Fr.drewN | apply Fr.alloc | (apply Fr.transF; assumption) | (refine Fr.setRow ?_ _ (by first | exact Or.inr (by (first | omega | (simp; done) | (simp; omega))) | (exact Or.inl (by first | assumption | (simp; done)))))))) ?_
  repeat (first | refine sp ?_ | (refine is_load ?_; refine ld ?_) | (refine is_store ?_; refine sr ?_) | (refine is_alloc ?_; refine al ?_) | (refine is_box ?_; refine bx ?_) | (refine isl_load ?_; refine ldl ?_) | (refine isl_store ?_; refine srl ?_) | (refine isl_alloc ?_; refine all' ?_) | (refine isl_box ?_; refine bxl ?_))
  have hx6 : Ext w6 ((w6.drewN 1).alloc (.cells (Itm.one (k, v0)).cells.toArray 141)) := by (repeat (first | exact Fr.refl _ _ | assumption | apply Fr.drewN | apply Fr.alloc | (apply Fr.transF; assumption) | (refine Fr.setRow ?_ _ (by first | exact Or.inr (by (first | omega | (simp; done) | (simp; omega))) | (exact Or.inl (by first | assumption | (simp; done)))))))
  have hat := At.new (w6.drewN 1) (Itm.one (k, v0)).cells 141
  refine gol_appendG (r := 1) (sa := some ⟨(w6.drewN 1).heap.size, 0, none⟩) (news := (Itm.one (k, v0)).cells) (by decide) rfl rfl rfl (Own.ext h6.own hx6) (by
    intro j u hj
    exact ⟨_, _, rfl, by have := hat.cell (i := j) (v := u) hj; simpa using this⟩) rfl (Itm.cell1 _) (by simp [maxLen]; omega) (by omega) (by simp; omega) ?_
  intro v7 w7 ho7 hg7 hbk7
  have hf7 := Fr.of_grown hg7
  have hD7 : Fr (fun x => (Value.slice sv (psh P r).length cv).ownBlock = some x) w6 w7 := (hx6.mono fun _ e => e.elim).trans hf7
  refine ⟨hD7, ?_⟩
  have hb7 : At w7 b [Value.slice sv (psh P r).length cv] 138 := hb6.fr hD7 hnb6
  have hc7 := hc6.fr hD7 hnN6
  have hs7 := hD7.size
  have ho8 : OwnI w7 lo0 v7 (psh P r ++ [.one (k, v0)]) := by
    unfold OwnI
    rw [List.flatMap_append, List.length_append]
    simpa using ho7
  have ha7 : ArP w7 lo p q A6 := ha6.fr hD7 fun x hx e => hd6 x (Or.inr e) hx
  obtain ⟨s8, c8, rfl, _, _⟩ := Own.slice ho8
  have hnb8 := ho8.nec hb7 (by decide)
  have ho9 : ∀ cs, OwnI (w7.setRow b cs) lo0 (Value.slice s8 (psh P r ++ [Itm.one (k, v0)]).length c8) (psh P r ++ [.one (k, v0)]) := fun cs => Own.of_heap ho8 fun x hx => setRow_other _ _ _ _ fun e => hnb8 (e ▸ hx)
  repeat (first | refine sp ?_ | (refine is_load ?_; refine ld ?_) | (refine is_store ?_; refine sr ?_) | (refine is_alloc ?_; refine al ?_) | (refine is_box ?_; refine bx ?_) | (refine isl_load ?_; refine ldl ?_) | (refine isl_store ?_; refine srl ?_) | (refine isl_alloc ?_; refine all' ?_) | (refine isl_box ?_; refine bxl ?_))
  refine go_name (F := fun w8 => SdAt w8 lo0 b (Value.slice s8 (psh P r ++ [Itm.one (k, v0)]).length c8) (psh P r ++ [.one (k, v0)]) ∧ Fr (fun x => x = b) w7 w8) ⟨⟨by (repeat (first | assumption | (refine At.new' (by (first | omega | (simp; done) | (simp; omega))) _ _) | apply At.alloc | apply At.drewN | apply At.setRow | (apply At.setRow_neF; first | assumption | (apply Ne.symm; assumption) | omega) | (apply At.extF; assumption))), ho9 _⟩, by (repeat (first | exact Fr.refl _ _ | assumption | apply Fr.drewN | apply Fr.alloc | (apply Fr.transF; assumption) | (refine Fr.setRow ?_ _ (by first | exact Or.inr (by (first | omega | (simp; done) | (simp; omega))) | (exact Or.inl (by first | assumption | (simp; done)))))))⟩ ?_
  rintro w8 ⟨h8, hf8⟩
  have hs8 := hf8.size
  have hc8 := hc7.fr hf8 (by omega)
  have ha8 := ha7.fr hf8 fun x hx e => hd x (Or.inl e) hx
  have hv8 : ∀ x, (Value.slice s8 (psh P r ++ [Itm.one (k, v0)]).length c8).ownBlock = some x → v.ownBlock = some x ∨ w.heap.size ≤ x := fun x hx => by
    rcases hbk7 x hx with e | e
    · rcases hv6 x e with e | e
      · exact Or.inl (hv3 x e)
      · exact Or.inr (by omega)
    · simp at e; exact Or.inr (by omega)
  have hd8 : ∀ x, (x = b ∨ (Value.slice s8 (psh P r ++ [Itm.one (k, v0)]).length c8).ownBlock = some x) → ¬ q.fp x := fun x hx hfp => by
    rcases hx with e | e
    · exact hd x (Or.inl e) hfp
    · rcases hv8 x e with e | e
      · exact hd x (Or.inr e) hfp
      · have := ha.lt x hfp; omega
  repeat (first | refine sp ?_ | (refine is_load ?_; refine ld ?_) | (refine is_store ?_; refine sr ?_) | (refine is_alloc ?_; refine al ?_) | (refine is_box ?_; refine bx ?_) | (refine isl_load ?_; refine ldl ?_) | (refine isl_store ?_; refine srl ?_) | (refine isl_alloc ?_; refine all' ?_) | (refine isl_box ?_; refine bxl ?_))
  refine go_call rfl rfl (t_push w8 lo0 lo p b q _ _ _ l h8 ha8 hd8 (by omega) (by simp; omega) (hr6.inA (ht.2.2.2.1.read i)) (by omega)) ?_
  rintro _ w9 ⟨rfl, v9, A9, h9, ha9, hr9, hv9, hf9⟩
  repeat (first | refine sp ?_ | (refine is_load ?_; refine ld ?_) | (refine is_store ?_; refine sr ?_) | (refine is_alloc ?_; refine al ?_) | (refine is_box ?_; refine bx ?_) | (refine isl_load ?_; refine ldl ?_) | (refine isl_store ?_; refine srl ?_) | (refine isl_alloc ?_; refine all' ?_) | (refine isl_box ?_; refine bxl ?_))
  have hF : Fr (fun x => x = b ∨ x = p ∨ v.ownBlock = some x) w w9 := by
    have f1 : Fr (fun x => x = b ∨ x = p ∨ v.ownBlock = some x) w w5 := (hx12.mono fun _ e => e.elim).trans ((hf3.mono fun x e => Or.inl e).trans ((hf4.mono fun x e => Or.inr (Or.inl e)).trans (hx5.mono fun _ e => e.elim)))
    have f2 := f1.trans (hf6.mono fun x e => e.imp id fun e => e.imp id fun e => hv3 x e)
    have f3 := f2.trans' hD7 fun x hx e => by
      rcases hv6 x e with e | e
      · exact Or.inr (Or.inr (hv3 x e))
      · omega
    have f4 := f3.trans (hf8.mono fun x e => Or.inl e)
    refine f4.trans' hf9 fun x hx e => ?_
    rcases e with e | e | e
    · exact Or.inl e
    · exact Or.inr (Or.inl e)
    · rcases hv8 x e with e | e
      · exact Or.inr (Or.inr e)
      · omega
  exact go_end0 rfl ⟨_, rfl, rfl, _, _, h9, ha9, ⟨_, ((Rds.read A i).trans hr6).trans hr9⟩, fun x hx => by
    rcases hv9 x hx with e | e
    · exact hv8 x e
    · exact Or.inr (by omega), hF⟩

end Go.Proofs.Yteghhalnpdikoaa
