/-
  The reference allocator: a slot is taken, a slot is given back.
-/
import Derived.Test.YtapocbahkeoeoaaRj
set_option linter.unusedVariables false
namespace Go.Proofs.Ytapocbahkeoeoaa
open Go.Vc

theorem u32_get {xs : List Nat} {C : List Value} {k : Nat} (hk : k < xs.length) : (xs.flatMap u32c ++ C)[0 + k]? = some (.int .u32 ((xs[k] : Nat) : Int)) := by
  rw [u32_map, Nat.zero_add, List.getElem?_append_left (by simpa using hk)]
  simp [hk]
theorem u32_set {xs : List Nat} {C : List Value} {k x : Nat} (hk : k < xs.length) : (xs.flatMap u32c ++ C).set (0 + k) (.int .u32 (x : Int)) = (xs.set k x).flatMap u32c ++ C := by
  rw [u32_map, u32_map, Nat.zero_add, List.set_append_left _ _ (by simpa using hk), List.map_set]
theorem bool_set {xs : List Bool} {C : List Value} {k : Nat} {x : Bool} (hk : k < xs.length) : (xs.flatMap boolC ++ C).set (0 + k) (.bool x) = (xs.set k x).flatMap boolC ++ C := by
  rw [bool_map, bool_map, Nat.zero_add, List.set_append_left _ _ (by simpa using hk), List.map_set]
theorem rd_of_at {α : Type} {w : World} {lo b n cap : Nat} {T : TypeId} {enc : α → List Value} {xs : List α} {C : List Value} (h : At w b (xs.flatMap enc ++ C) T) (hn : n = xs.length) (hc : n ≤ cap) (hlo : lo ≤ b) (hl : (xs.flatMap enc).length = xs.length) : Rd w lo (.slice (some ⟨b, 0, none⟩) n cap) enc xs := by
  subst hn
  refine ⟨_, _, rfl, hc, fun j u hj => ⟨b, 0, rfl, ?_⟩, fun b' o e _ => ?_⟩
  · rw [Nat.zero_add]
    exact h.cell (by rw [List.getElem?_append_left ((List.getElem?_eq_some_iff.1 hj).1)]; exact hj)
  · simp only [Option.some.injEq, Addr.mk.injEq] at e
    obtain ⟨rfl, _⟩ := e
    exact ⟨hlo, h.lt⟩

theorem c_rsAllocF (w : World) (lo : Nat) (V : RV) (A : AR) (hs : Rd w lo V.sv u32c A.rel) (hg : Rd w lo V.gv u32c A.gens) (ho : Rd w lo V.ov boolC A.ons) (hwf : Wf A) (hf : A.free = 0) :
    Calls Try.prog 83 [.agg ⟨rsC A V⟩].toArray w (Ret fun r w' => r = .tuple #[.agg ⟨rsC A V⟩, .int .u32 0, .int .i64 2] ∧ Ext w w') := by
  have hcap := hwf.capM
  have hfr := hwf.fr
  have hrl := rel_le hwf
  unfold AR.free at hf
  have hr0 : A.rel.length = 0 := by omega
  have hfc : A.fresh = A.cap := by omega
  obtain ⟨nb, cb, sv, gv, ov⟩ := V
  obtain ⟨sa, ca, rfl, hca, hrr, _⟩ := hs
  obtain ⟨ga, gc, rfl, _⟩ := hg
  obtain ⟨oa, oc, rfl, _⟩ := ho
  unfold rsC
  rw [hr0, hfc]
  simp only []
  refine calls_go Try.func83 rfl Try.ntmps83 (Nat.le_of_ble_eq_true rfl) ?_
  repeat (first | refine sp ?_ | (refine is_load ?_; refine ld ?_) | (refine is_store ?_; refine sr ?_) | (refine is_alloc ?_; refine al ?_) | (refine is_box ?_; refine bx ?_) | (refine isl_load ?_; refine ldl ?_) | (refine isl_store ?_; refine srl ?_) | (refine isl_alloc ?_; refine all' ?_) | (refine isl_box ?_; refine bxl ?_))
  refine go_ret3 rfl ⟨_, rfl, Ld.run (ld_part (by (repeat (first | assumption | (refine At.new' (by (first | omega | (simp; done) | (simp; omega))) _ _) | apply At.alloc | apply At.drewN | apply At.setRow | (apply At.setRow_neF; first | assumption | (apply Ne.symm; assumption) | omega) | (apply At.extF; assumption)))) rfl rfl)⟩ rfl rfl ⟨_, rfl, rfl, by (repeat (first | exact Fr.refl _ _ | assumption | apply Fr.drewN | apply Fr.alloc | (apply Fr.transF; assumption) | (refine Fr.setRow ?_ _ (by first | exact Or.inr (by (first | omega | (simp; done) | (simp; omega))) | (exact Or.inl (by first | assumption | (simp; done)))))))⟩

set_option maxHeartbeats 8000000 in
theorem c_rsAlloc (w : World) (lo : Nat) (V : RV) (A : AR) (hs : Rd w lo V.sv u32c A.rel) (hg : Rd w lo V.gv u32c A.gens) (ho : Rd w lo V.ov boolC A.ons) (hbl : ∀ b, V.sv.ownBlock = some b → b < w.heap.size) (hwf : Wf A) (hf : A.free ≠ 0) (hlo : lo ≤ w.heap.size) :
    Calls Try.prog 83 [.agg ⟨rsC A V⟩].toArray w (Ret fun r w' => ∃ sv gv ov, r = .tuple #[.agg ⟨rsC A.take ⟨V.nb, V.cb, sv, gv, ov⟩⟩, .int .u32 (A.top : Int), .int .i64 0] ∧ NextS w w' lo V A.take sv gv ov) := by
  have hcap := hwf.capM
  have hcap1 := hwf.cap1
  have hfr := hwf.fr
  have hrl := rel_le hwf
  obtain ⟨t1, t2, t3⟩ := hwf.top_bd hf
  obtain ⟨k, htk⟩ : ∃ k, k + 1 = A.top := ⟨A.top - 1, by omega⟩
  obtain ⟨nb, cb, sv, gv, ov⟩ := V
  simp only at hs hg ho hbl
  have hs0 := hs
  obtain ⟨ga, gc, eg, hgc, hgr, _⟩ := hg
  obtain ⟨oa, oc, eo, hoc, hor, _⟩ := ho
  rw [gens_len] at eg hgc
  rw [ons_len] at eo hoc
  subst eg
  subst eo
  obtain ⟨sa, ca, rfl, hca, hrr, _⟩ := hs
  unfold rsC
  simp only []
  by_cases hrel : A.rel = []
  · have hlen : A.rel.length = 0 := by rw [hrel]; rfl
    have hfresh : A.fresh < A.cap := by unfold AR.free at hf; omega
    have htop : A.top = A.fresh + 1 := by unfold AR.top; rw [hrel]; rfl
    have hT : A.take.rel = A.rel := by simp [AR.take, hrel]
    obtain ⟨f1, hf1⟩ : ∃ f1, A.take.fresh + 1 = f1 := ⟨_, rfl⟩
    have hf1' : f1 = A.fresh + 2 := by rw [← hf1]; simp [AR.take, hrel]
    rw [hlen] at hs0 hbl ⊢
    obtain ⟨sx, nx, cx, hsv⟩ : ∃ sx nx cx, Value.slice sa 0 ca = Value.slice sx nx cx := ⟨_, _, _, rfl⟩
    refine calls_go Try.func83 rfl Try.ntmps83 (Nat.le_of_ble_eq_true rfl) ?_
    repeat (first | refine sp ?_ | (refine is_load ?_; refine ld ?_) | (refine is_store ?_; refine sr ?_) | (refine is_alloc ?_; refine al ?_) | (refine is_box ?_; refine bx ?_) | (refine isl_load ?_; refine ldl ?_) | (refine isl_store ?_; refine srl ?_) | (refine isl_alloc ?_; refine all' ?_) | (refine isl_box ?_; refine bxl ?_))
    refine go_as 5 (u' := .int .i64 (A.top : Int)) rfl (by rw [htop]) ?_
    refine go_name (F := fun w1 => At w1 w.heap.size [.int .i64 (A.cap : Int), (.slice sx nx cx), .int .i64 (f1 : Int), .slice ga A.cap gc, .slice oa A.cap oc] 82 ∧ At w1 (w.heap.size + 1) [.int .i64 0, .slice none 0 0, .int .i64 0, .slice none 0 0, .slice none 0 0] 82 ∧ Ext w w1) ⟨by rw [← hsv, show (f1 : Int) = ((A.fresh + 1 : Nat) : Int) + 1 by omega]; (repeat (first | assumption | (refine At.new' (by (first | omega | (simp; done) | (simp; omega))) _ _) | apply At.alloc | apply At.drewN | apply At.setRow | (apply At.setRow_neF; first | assumption | (apply Ne.symm; assumption) | omega) | (apply At.extF; assumption))), by (repeat (first | assumption | (refine At.new' (by (first | omega | (simp; done) | (simp; omega))) _ _) | apply At.alloc | apply At.drewN | apply At.setRow | (apply At.setRow_neF; first | assumption | (apply Ne.symm; assumption) | omega) | (apply At.extF; assumption))), by (repeat (first | exact Fr.refl _ _ | assumption | apply Fr.drewN | apply Fr.alloc | (apply Fr.transF; assumption) | (refine Fr.setRow ?_ _ (by first | exact Or.inr (by (first | omega | (simp; done) | (simp; omega))) | (exact Or.inl (by first | assumption | (simp; done)))))))⟩ ?_
    rintro w1 ⟨hb1, hr1, hx1⟩
    have hsv1 : Rd w1 lo (.slice sx nx cx) u32c A.take.rel := by rw [hT, ← hsv]; exact hs0.ext hx1
    have hbl1 : ∀ b, (Value.slice sx nx cx).ownBlock = some b → ((Value.slice sa 0 ca).ownBlock = some b ∧ b < w.heap.size) ∨ (w.heap.size + 2 ≤ b ∧ b < w1.heap.size) := fun b hb => Or.inl ⟨by rw [hsv]; exact hb, hbl b (by rw [hsv]; exact hb)⟩
    skip
    have hgr1 := hgr.ext hx1
    have hor1 := hor.ext hx1
    have hl1 := hb1.lt
    have hl2 := hr1.lt
    refine go_drawE (Fr (fun _ => False) w1) 5 Try.follows (by kernel_rfl) (by kernel_rfl) (by kernel_rfl) ((Fr.refl _ _).drewN 1) ?_
    repeat (first | refine sp ?_ | (refine is_load ?_; refine ld ?_) | (refine is_store ?_; refine sr ?_) | (refine is_alloc ?_; refine al ?_) | (refine is_box ?_; refine bx ?_) | (refine isl_load ?_; refine ldl ?_) | (refine isl_store ?_; refine srl ?_) | (refine isl_alloc ?_; refine all' ?_) | (refine isl_box ?_; refine bxl ?_))
    have hxd : Ext w1 (w1.drewN 1) := (Fr.refl _ _).drewN 1
    refine gol_appendG (r := A.cap) (lo := w1.heap.size) (q := 0) (xs := []) (by decide) rfl rfl rfl (Own.nil _ _ _ _) (hgr1.ext hxd) (by rw [flatMap_len u32_len, gens_len]) (u32_ones _) (by simp [maxLen]; omega) (by omega) (by simp) ?_
    intro v3 w3 ho3 hg3 _
    have hx3 : Ext w1 w3 := ext_grown hxd (Nat.le_refl _) (Own.nil _ w1.heap.size 27 1) hg3
    refine ⟨hx3, ?_⟩
    have hl3 := hx3.size
    repeat (first | refine sp ?_ | (refine is_load ?_; refine ld ?_) | (refine is_store ?_; refine sr ?_) | (refine is_alloc ?_; refine al ?_) | (refine is_box ?_; refine bx ?_) | (refine isl_load ?_; refine ldl ?_) | (refine isl_store ?_; refine srl ?_) | (refine isl_alloc ?_; refine all' ?_) | (refine isl_box ?_; refine bxl ?_))
    refine gol_appendG (r := A.cap) (lo := w3.heap.size) (q := 0) (xs := []) (by decide) rfl rfl rfl (Own.nil _ _ _ _) (hor1.ext hx3) (by rw [flatMap_len boolC_len, ons_len]) (bool_ones _) (by simp [maxLen]; omega) (by omega) (by simp) ?_
    intro v4 w4 ho4 hg4 _
    have hx34 : Ext w3 w4 := ext_grown (Fr.refl _ _) (Nat.le_refl _) (Own.nil _ w3.heap.size 4 1) hg4
    refine ⟨trivial, ?_⟩
    have ho3' := Own.ext ho3 hx34
    obtain ⟨g, c3, C3, rfl, hgl, hga, hgc3, _, _, _⟩ := ho3'.block1 (by omega)
    obtain ⟨o, c4, C4, rfl, hol, hoa, hoc4, _, _, _⟩ := ho4.block1 (by omega)
    rw [List.nil_append] at hga hoa
    simp only [Nat.zero_add] at hgc3 hoc4 ⊢
    have hx4 := hx3.trans hx34
    have hb4 := hb1.ext hx4
    have hr4 := hr1.ext hx4
    have hgB : g ≠ w.heap.size := by omega
    have hoB : o ≠ w.heap.size := by omega
    have hgR : g ≠ w.heap.size + 1 := by omega
    have hoR : o ≠ w.heap.size + 1 := by omega
    have hgo : g ≠ o := hga.ne hoa (by decide)
    have hg4l := hga.lt
    have ho4l := hoa.lt
    have hl4 := hx4.size
    repeat (first | refine sp ?_ | (refine is_load ?_; refine ld ?_) | (refine is_store ?_; refine sr ?_) | (refine is_alloc ?_; refine al ?_) | (refine is_box ?_; refine bx ?_) | (refine isl_load ?_; refine ldl ?_) | (refine isl_store ?_; refine srl ?_) | (refine isl_alloc ?_; refine all' ?_) | (refine isl_box ?_; refine bxl ?_))
    refine go_name (F := fun w5 => At w5 w.heap.size [.int .i64 (A.cap : Int), (.slice sx nx cx), .int .i64 (f1 : Int), .slice (some ⟨g, 0, none⟩) A.cap c3, .slice (some ⟨o, 0, none⟩) A.cap c4] 82 ∧ At w5 (w.heap.size + 1) [.int .i64 0, .slice none 0 0, .int .i64 0, .slice none 0 0, .slice none 0 0] 82 ∧ At w5 g (A.gens.flatMap u32c ++ C3) 27 ∧ At w5 o (A.ons.flatMap boolC ++ C4) 4 ∧ Fr (fun b => b = w.heap.size) w4 w5) ⟨by (repeat (first | assumption | (refine At.new' (by (first | omega | (simp; done) | (simp; omega))) _ _) | apply At.alloc | apply At.drewN | apply At.setRow | (apply At.setRow_neF; first | assumption | (apply Ne.symm; assumption) | omega) | (apply At.extF; assumption))), by (repeat (first | assumption | (refine At.new' (by (first | omega | (simp; done) | (simp; omega))) _ _) | apply At.alloc | apply At.drewN | apply At.setRow | (apply At.setRow_neF; first | assumption | (apply Ne.symm; assumption) | omega) | (apply At.extF; assumption))), by (repeat (first | assumption | (refine At.new' (by (first | omega | (simp; done) | (simp; omega))) _ _) | apply At.alloc | apply At.drewN | apply At.setRow | (apply At.setRow_neF; first | assumption | (apply Ne.symm; assumption) | omega) | (apply At.extF; assumption))), by (repeat (first | assumption | (refine At.new' (by (first | omega | (simp; done) | (simp; omega))) _ _) | apply At.alloc | apply At.drewN | apply At.setRow | (apply At.setRow_neF; first | assumption | (apply Ne.symm; assumption) | omega) | (apply At.extF; assumption))), by (repeat (first | exact Fr.refl _ _ | assumption | apply Fr.drewN | apply Fr.alloc | (apply Fr.transF; assumption) | (refine Fr.setRow ?_ _ (by first | exact Or.inr (by (first | omega | (simp; done) | (simp; omega))) | (exact Or.inl (by first | assumption | (simp; done)))))))⟩ ?_
    rintro w5 ⟨hb5, hr5, hga5, hoa5, hf5⟩
    have hf5' : Fr (fun b => b = w.heap.size ∨ w.heap.size + 1 = b ∨ b = g ∨ b = o) w4 w5 := hf5.mono fun b e => Or.inl e
    clear hf5
    have hgv := u32_get (C := C3) (show k < A.gens.length by rw [gens_len]; omega)
    rw [gens_get A (by omega), show k + 1 = A.top by omega] at hgv
    have hgs := u32_set (C := C3) (x := (A.gen A.top + 1) % 4294967296) (show k < A.gens.length by rw [gens_len]; omega)
    rw [← wrap_u32] at hgs
    have hos := bool_set (C := C4) (x := true) (show k < A.ons.length by rw [ons_len]; omega)
    have hglen : (A.gens.flatMap u32c ++ C3).length = A.cap + C3.length := by rw [List.length_append, flatMap_len u32_len, gens_len]; omega
    have holen : (A.ons.flatMap boolC ++ C4).length = A.cap + C4.length := by rw [List.length_append, flatMap_len boolC_len, ons_len]; omega
    have hgT : A.take.gens = A.gens.set k ((A.gen A.top + 1) % 4294967296) := gens_upd A A.take (by omega) rfl (by show upd A.gen A.top _ = _; rw [htk])
    have hoT : A.take.ons = A.ons.set k true := ons_upd A A.take (by omega) rfl (by show upd A.used A.top true = _; rw [htk])
    rw [← hgT] at hgs
    rw [← hoT] at hos
    repeat (first | refine sp ?_ | (refine is_load ?_; refine ld ?_) | (refine is_store ?_; refine sr ?_) | (refine is_alloc ?_; refine al ?_) | (refine is_box ?_; refine bx ?_) | (refine isl_load ?_; refine ldl ?_) | (refine isl_store ?_; refine srl ?_) | (refine isl_alloc ?_; refine all' ?_) | (refine isl_box ?_; refine bxl ?_))
    refine go_as 49 (u' := .int .i64 (k : Int)) rfl (by congr 1; omega) ?_
    repeat (first | refine sp ?_ | (refine is_load ?_; refine ld ?_) | (refine is_store ?_; refine sr ?_) | (refine is_alloc ?_; refine al ?_) | (refine is_box ?_; refine bx ?_) | (refine isl_load ?_; refine ldl ?_) | (refine isl_store ?_; refine srl ?_) | (refine isl_alloc ?_; refine all' ?_) | (refine isl_box ?_; refine bxl ?_))
    refine go_store rfl rfl (st_at (by (repeat (first | assumption | (refine At.new' (by (first | omega | (simp; done) | (simp; omega))) _ _) | apply At.alloc | apply At.drewN | apply At.setRow | (apply At.setRow_neF; first | assumption | (apply Ne.symm; assumption) | omega) | (apply At.extF; assumption)))) (by rw [hglen]; omega) rfl) ?_
    rw [hgs]
    repeat (first | refine sp ?_ | (refine is_load ?_; refine ld ?_) | (refine is_store ?_; refine sr ?_) | (refine is_alloc ?_; refine al ?_) | (refine is_box ?_; refine bx ?_) | (refine isl_load ?_; refine ldl ?_) | (refine isl_store ?_; refine srl ?_) | (refine isl_alloc ?_; refine all' ?_) | (refine isl_box ?_; refine bxl ?_))
    refine go_as 57 (u' := .int .i64 (k : Int)) rfl (by congr 1; omega) ?_
    repeat (first | refine sp ?_ | (refine is_load ?_; refine ld ?_) | (refine is_store ?_; refine sr ?_) | (refine is_alloc ?_; refine al ?_) | (refine is_box ?_; refine bx ?_) | (refine isl_load ?_; refine ldl ?_) | (refine isl_store ?_; refine srl ?_) | (refine isl_alloc ?_; refine all' ?_) | (refine isl_box ?_; refine bxl ?_))
    refine go_store rfl rfl (st_at (by (repeat (first | assumption | (refine At.new' (by (first | omega | (simp; done) | (simp; omega))) _ _) | apply At.alloc | apply At.drewN | apply At.setRow | (apply At.setRow_neF; first | assumption | (apply Ne.symm; assumption) | omega) | (apply At.extF; assumption)))) (by rw [holen]; omega) rfl) ?_
    rw [hos]
    repeat (first | refine sp ?_ | (refine is_load ?_; refine ld ?_) | (refine is_store ?_; refine sr ?_) | (refine is_alloc ?_; refine al ?_) | (refine is_box ?_; refine bx ?_) | (refine isl_load ?_; refine ldl ?_) | (refine isl_store ?_; refine srl ?_) | (refine isl_alloc ?_; refine all' ?_) | (refine isl_box ?_; refine bxl ?_))
    have hfin : ∀ W, Fr (fun b => b = w.heap.size ∨ w.heap.size + 1 = b ∨ b = g ∨ b = o) w4 W → Ext w W := fun W f => (hx1.trans hx4).trans' f fun b hb e => by omega
    refine go_name (F := fun w6 => At w6 w.heap.size [.int .i64 (A.cap : Int), (.slice sx nx cx), .int .i64 (f1 : Int), .slice (some ⟨g, 0, none⟩) A.cap c3, .slice (some ⟨o, 0, none⟩) A.cap c4] 82 ∧ At w6 (w.heap.size + 1) [.int .i64 (A.cap : Int), (.slice sx nx cx), .int .i64 (f1 : Int), .slice (some ⟨g, 0, none⟩) A.cap c3, .slice (some ⟨o, 0, none⟩) A.cap c4] 82 ∧ At w6 g (A.take.gens.flatMap u32c ++ C3) 27 ∧ At w6 o (A.take.ons.flatMap boolC ++ C4) 4 ∧ Fr (fun b => b = w.heap.size ∨ w.heap.size + 1 = b ∨ b = g ∨ b = o) w4 w6) ⟨by (repeat (first | assumption | (refine At.new' (by (first | omega | (simp; done) | (simp; omega))) _ _) | apply At.alloc | apply At.drewN | apply At.setRow | (apply At.setRow_neF; first | assumption | (apply Ne.symm; assumption) | omega) | (apply At.extF; assumption))), by (repeat (first | assumption | (refine At.new' (by (first | omega | (simp; done) | (simp; omega))) _ _) | apply At.alloc | apply At.drewN | apply At.setRow | (apply At.setRow_neF; first | assumption | (apply Ne.symm; assumption) | omega) | (apply At.extF; assumption))), by (repeat (first | assumption | (refine At.new' (by (first | omega | (simp; done) | (simp; omega))) _ _) | apply At.alloc | apply At.drewN | apply At.setRow | (apply At.setRow_neF; first | assumption | (apply Ne.symm; assumption) | omega) | (apply At.extF; assumption))), by (repeat (first | assumption | (refine At.new' (by (first | omega | (simp; done) | (simp; omega))) _ _) | apply At.alloc | apply At.drewN | apply At.setRow | (apply At.setRow_neF; first | assumption | (apply Ne.symm; assumption) | omega) | (apply At.extF; assumption))), by (repeat (first | exact Fr.refl _ _ | assumption | apply Fr.drewN | apply Fr.alloc | (apply Fr.transF; assumption) | (refine Fr.setRow ?_ _ (by first | exact Or.inr (by (first | omega | (simp; done) | (simp; omega))) | (exact Or.inl (by first | assumption | (simp; done)))))))⟩ ?_
    rintro w6 ⟨hb6, hr6, hga6, hoa6, hf6⟩
    have hX := hfin w6 hf6
    have hres : A.take.fresh + 1 = f1 := hf1
    refine go_ret3 rfl ⟨_, rfl, Ld.run (ld_part (by (repeat (first | assumption | (refine At.new' (by (first | omega | (simp; done) | (simp; omega))) _ _) | apply At.alloc | apply At.drewN | apply At.setRow | (apply At.setRow_neF; first | assumption | (apply Ne.symm; assumption) | omega) | (apply At.extF; assumption)))) rfl rfl)⟩ rfl rfl ⟨_, rfl, (.slice sx nx cx), .slice (some ⟨g, 0, none⟩) A.cap c3, .slice (some ⟨o, 0, none⟩) A.cap c4, ?_, ?_, ?_, ?_, ?_, ?_, hX⟩
    · rw [hres]; rfl
    · refine Rd.frB (hsv1.ext hx4) hf6 fun b hb e => ?_
      have := hbl1 b hb
      have : b < w1.heap.size := by omega
      omega
    · exact rd_of_at hga6 (by rw [gens_len]; rfl) (by omega) (by omega) (by rw [flatMap_len u32_len]; omega)
    · exact rd_of_at hoa6 (by rw [ons_len]; rfl) (by omega) (by omega) (by rw [flatMap_len boolC_len]; omega)
    · rintro b (e | e | e)
      · rcases hbl1 b e with h | h
        · exact Or.inl (Or.inl h.1)
        · right; omega
      · simp only [Value.ownBlock, Option.some.injEq] at e; right; omega
      · simp only [Value.ownBlock, Option.some.injEq] at e; right; omega
    · have := hf6.size
      rintro b (e | e | e)
      · have := hbl1 b e; omega
      · simp only [Value.ownBlock, Option.some.injEq] at e; omega
      · simp only [Value.ownBlock, Option.some.injEq] at e; omega
  · have hsn := rel_snoc hrel
    obtain ⟨m, hm⟩ : ∃ m, A.rel.length = m + 1 := ⟨A.rel.length - 1, by have := List.length_pos_iff.2 hrel; omega⟩
    have hdl : A.rel.dropLast.length = m := by simp [hm]
    have hT : A.take.rel = A.rel.dropLast := rfl
    have htm : A.rel[m]'(by omega) = A.top := by
      have : A.rel[m]? = some A.top := by
        rw [hsn, List.getElem?_append_right (by omega), hdl]; simp
      rw [List.getElem?_eq_getElem (by omega)] at this
      exact Option.some.inj this
    obtain ⟨f1, hf1⟩ : ∃ f1, A.take.fresh + 1 = f1 := ⟨_, rfl⟩
    have hf1' : f1 = A.fresh + 1 := by rw [← hf1]; simp [AR.take, hrel]
    obtain ⟨b0, o0, rfl, hcell⟩ := hrr.at (m := 1) (fun _ => rfl) (by omega) (i := m) (by omega)
    have hc := hcell 0 (.int .u32 ((A.rel[m]'(by omega) : Nat) : Int)) rfl
    rw [htm] at hc
    have hc : w.cell? ⟨b0, o0 + m, none⟩ = some (.int .u32 (A.top : Int)) := by simpa using hc
    rw [hm] at hs0 hbl hca ⊢
    refine calls_go Try.func83 rfl Try.ntmps83 (Nat.le_of_ble_eq_true rfl) ?_
    repeat (first | refine sp ?_ | (refine is_load ?_; refine ld ?_) | (refine is_store ?_; refine sr ?_) | (refine is_alloc ?_; refine al ?_) | (refine is_box ?_; refine bx ?_) | (refine isl_load ?_; refine ldl ?_) | (refine isl_store ?_; refine srl ?_) | (refine isl_alloc ?_; refine all' ?_) | (refine isl_box ?_; refine bxl ?_))
    refine go_as 15 (u' := .int .i64 (m : Int)) rfl (by congr 1; omega) ?_
    repeat (first | refine sp ?_ | (refine is_load ?_; refine ld ?_) | (refine is_store ?_; refine sr ?_) | (refine is_alloc ?_; refine al ?_) | (refine is_box ?_; refine bx ?_) | (refine isl_load ?_; refine ldl ?_) | (refine isl_store ?_; refine srl ?_) | (refine isl_alloc ?_; refine all' ?_) | (refine isl_box ?_; refine bxl ?_))
    refine go_load rfl rfl (ld_cell (Fr.cell (S := fun _ => False) (w := w) (by (repeat (first | exact Fr.refl _ _ | assumption | apply Fr.drewN | apply Fr.alloc | (apply Fr.transF; assumption) | (refine Fr.setRow ?_ _ (by first | exact Or.inr (by (first | omega | (simp; done) | (simp; omega))) | (exact Or.inl (by first | assumption | (simp; done)))))))) hc id)) ?_
    repeat (first | refine sp ?_ | (refine is_load ?_; refine ld ?_) | (refine is_store ?_; refine sr ?_) | (refine is_alloc ?_; refine al ?_) | (refine is_box ?_; refine bx ?_) | (refine isl_load ?_; refine ldl ?_) | (refine isl_store ?_; refine srl ?_) | (refine isl_alloc ?_; refine all' ?_) | (refine isl_box ?_; refine bxl ?_))
    refine go_as 22 (u' := .int .i64 (m : Int)) rfl (by congr 1; omega) ?_
    refine go_p rfl (pr_sl (lo := 0) (hi := m) (by decide) rfl rfl ⟨_, _, rfl, rfl⟩ (by omega) (by omega)) ?_
    refine go_name (F := fun w1 => At w1 w.heap.size [.int .i64 (A.cap : Int), .slice (some ⟨b0, o0, none⟩) (m + 1) ca, .int .i64 (f1 : Int), .slice ga A.cap gc, .slice oa A.cap oc] 82 ∧ At w1 (w.heap.size + 1) [.int .i64 0, .slice none 0 0, .int .i64 0, .slice none 0 0, .slice none 0 0] 82 ∧ Ext w w1) ⟨by rw [hf1']; (repeat (first | assumption | (refine At.new' (by (first | omega | (simp; done) | (simp; omega))) _ _) | apply At.alloc | apply At.drewN | apply At.setRow | (apply At.setRow_neF; first | assumption | (apply Ne.symm; assumption) | omega) | (apply At.extF; assumption))), by (repeat (first | assumption | (refine At.new' (by (first | omega | (simp; done) | (simp; omega))) _ _) | apply At.alloc | apply At.drewN | apply At.setRow | (apply At.setRow_neF; first | assumption | (apply Ne.symm; assumption) | omega) | (apply At.extF; assumption))), by (repeat (first | exact Fr.refl _ _ | assumption | apply Fr.drewN | apply Fr.alloc | (apply Fr.transF; assumption) | (refine Fr.setRow ?_ _ (by first | exact Or.inr (by (first | omega | (simp; done) | (simp; omega))) | (exact Or.inl (by first | assumption | (simp; done)))))))⟩ ?_
    rintro w0 ⟨hb0, hr0, hx0⟩
    have hl0 := hr0.lt
    refine go_appendG (r := m) (lo := w0.heap.size) (q := 0) (xs := []) (by decide) rfl rfl rfl (Own.nil _ _ _ _) ((RdC.cut hrr (lo := 0) (hi := m) (by omega)).ext hx0) (by rw [u32_map]; simp; omega) (by intro u hu; rw [u32_map] at hu; obtain ⟨_, _, rfl⟩ := List.mem_map.1 (List.mem_of_mem_take (List.mem_of_mem_drop hu)); rfl) (by simp [maxLen]; omega) (by omega) (by simp) ?_
    intro v2 w2 ho2 hg2 hbk2
    have hx2 : Ext w0 w2 := ext_grown (Fr.refl _ _) (Nat.le_refl _) (Own.nil _ w0.heap.size 27 1) hg2
    have hl2 := hx2.size
    have hlist : ([] : List Value) ++ ((A.rel.flatMap u32c).take m).drop 0 = A.take.rel.flatMap u32c := by
      rw [hT, List.nil_append, List.drop_zero, u32_map, u32_map, ← List.map_take, List.dropLast_eq_take, hm]; rfl
    rw [hlist] at ho2
    have hrd2 : Rd w2 w0.heap.size v2 u32c A.take.rel := Own.rd ho2 (by rw [hT, hdl]; omega)
    have hown2 : ∀ b, v2.ownBlock = some b → w0.heap.size ≤ b ∧ b < w2.heap.size := fun b hb => World.ownsRow.lt ho2 b hb
    have hb2 := hb0.ext hx2
    have hr2 := hr0.ext hx2
    obtain ⟨sa2, ca2, hv2, _⟩ := ho2.slice
    subst hv2
    repeat (first | refine sp ?_ | (refine is_load ?_; refine ld ?_) | (refine is_store ?_; refine sr ?_) | (refine is_alloc ?_; refine al ?_) | (refine is_box ?_; refine bx ?_) | (refine isl_load ?_; refine ldl ?_) | (refine isl_store ?_; refine srl ?_) | (refine isl_alloc ?_; refine all' ?_) | (refine isl_box ?_; refine bxl ?_))
    refine go_name (F := fun w1 => At w1 w.heap.size [.int .i64 (A.cap : Int), .slice sa2 (0 + m) ca2, .int .i64 (f1 : Int), .slice ga A.cap gc, .slice oa A.cap oc] 82 ∧ At w1 (w.heap.size + 1) [.int .i64 0, .slice none 0 0, .int .i64 0, .slice none 0 0, .slice none 0 0] 82 ∧ Fr (fun b => b = w.heap.size) w2 w1) ⟨by (repeat (first | assumption | (refine At.new' (by (first | omega | (simp; done) | (simp; omega))) _ _) | apply At.alloc | apply At.drewN | apply At.setRow | (apply At.setRow_neF; first | assumption | (apply Ne.symm; assumption) | omega) | (apply At.extF; assumption))), by (repeat (first | assumption | (refine At.new' (by (first | omega | (simp; done) | (simp; omega))) _ _) | apply At.alloc | apply At.drewN | apply At.setRow | (apply At.setRow_neF; first | assumption | (apply Ne.symm; assumption) | omega) | (apply At.extF; assumption))), by (repeat (first | exact Fr.refl _ _ | assumption | apply Fr.drewN | apply Fr.alloc | (apply Fr.transF; assumption) | (refine Fr.setRow ?_ _ (by first | exact Or.inr (by (first | omega | (simp; done) | (simp; omega))) | (exact Or.inl (by first | assumption | (simp; done)))))))⟩ ?_
    rintro w1 ⟨hb1, hr1, hf1x⟩
    have hx1 : Ext w w1 := (hx0.trans hx2).trans' hf1x fun b hb e => by omega
    have hl1' := hf1x.size
    obtain ⟨sx, nx, cx, hsv⟩ : ∃ sx nx cx, Value.slice sa2 (0 + m) ca2 = Value.slice sx nx cx := ⟨_, _, _, rfl⟩
    rw [hsv] at hrd2 hown2 hb1
    have hsv1 : Rd w1 lo (.slice sx nx cx) u32c A.take.rel := (Rd.frB hrd2 hf1x fun b hb e => by have := hown2 b hb; omega).mono (by have := hx0.size; omega)
    have hbl1 : ∀ b, (Value.slice sx nx cx).ownBlock = some b → ((Value.slice (some ⟨b0, o0, none⟩) (m + 1) ca).ownBlock = some b ∧ b < w.heap.size) ∨ (w.heap.size + 2 ≤ b ∧ b < w1.heap.size) := fun b hb => Or.inr (by have := hown2 b hb; omega)
    skip
    have hgr1 := hgr.ext hx1
    have hor1 := hor.ext hx1
    have hl1 := hb1.lt
    have hl2 := hr1.lt
    refine go_drawE (Fr (fun _ => False) w1) 5 Try.follows (by kernel_rfl) (by kernel_rfl) (by kernel_rfl) ((Fr.refl _ _).drewN 1) ?_
    repeat (first | refine sp ?_ | (refine is_load ?_; refine ld ?_) | (refine is_store ?_; refine sr ?_) | (refine is_alloc ?_; refine al ?_) | (refine is_box ?_; refine bx ?_) | (refine isl_load ?_; refine ldl ?_) | (refine isl_store ?_; refine srl ?_) | (refine isl_alloc ?_; refine all' ?_) | (refine isl_box ?_; refine bxl ?_))
    have hxd : Ext w1 (w1.drewN 1) := (Fr.refl _ _).drewN 1
    refine gol_appendG (r := A.cap) (lo := w1.heap.size) (q := 0) (xs := []) (by decide) rfl rfl rfl (Own.nil _ _ _ _) (hgr1.ext hxd) (by rw [flatMap_len u32_len, gens_len]) (u32_ones _) (by simp [maxLen]; omega) (by omega) (by simp) ?_
    intro v3 w3 ho3 hg3 _
    have hx3 : Ext w1 w3 := ext_grown hxd (Nat.le_refl _) (Own.nil _ w1.heap.size 27 1) hg3
    refine ⟨hx3, ?_⟩
    have hl3 := hx3.size
    repeat (first | refine sp ?_ | (refine is_load ?_; refine ld ?_) | (refine is_store ?_; refine sr ?_) | (refine is_alloc ?_; refine al ?_) | (refine is_box ?_; refine bx ?_) | (refine isl_load ?_; refine ldl ?_) | (refine isl_store ?_; refine srl ?_) | (refine isl_alloc ?_; refine all' ?_) | (refine isl_box ?_; refine bxl ?_))
    refine gol_appendG (r := A.cap) (lo := w3.heap.size) (q := 0) (xs := []) (by decide) rfl rfl rfl (Own.nil _ _ _ _) (hor1.ext hx3) (by rw [flatMap_len boolC_len, ons_len]) (bool_ones _) (by simp [maxLen]; omega) (by omega) (by simp) ?_
    intro v4 w4 ho4 hg4 _
    have hx34 : Ext w3 w4 := ext_grown (Fr.refl _ _) (Nat.le_refl _) (Own.nil _ w3.heap.size 4 1) hg4
    refine ⟨trivial, ?_⟩
    have ho3' := Own.ext ho3 hx34
    obtain ⟨g, c3, C3, rfl, hgl, hga, hgc3, _, _, _⟩ := ho3'.block1 (by omega)
    obtain ⟨o, c4, C4, rfl, hol, hoa, hoc4, _, _, _⟩ := ho4.block1 (by omega)
    rw [List.nil_append] at hga hoa
    simp only [Nat.zero_add] at hgc3 hoc4 ⊢
    have hx4 := hx3.trans hx34
    have hb4 := hb1.ext hx4
    have hr4 := hr1.ext hx4
    have hgB : g ≠ w.heap.size := by omega
    have hoB : o ≠ w.heap.size := by omega
    have hgR : g ≠ w.heap.size + 1 := by omega
    have hoR : o ≠ w.heap.size + 1 := by omega
    have hgo : g ≠ o := hga.ne hoa (by decide)
    have hg4l := hga.lt
    have ho4l := hoa.lt
    have hl4 := hx4.size
    repeat (first | refine sp ?_ | (refine is_load ?_; refine ld ?_) | (refine is_store ?_; refine sr ?_) | (refine is_alloc ?_; refine al ?_) | (refine is_box ?_; refine bx ?_) | (refine isl_load ?_; refine ldl ?_) | (refine isl_store ?_; refine srl ?_) | (refine isl_alloc ?_; refine all' ?_) | (refine isl_box ?_; refine bxl ?_))
    refine go_name (F := fun w5 => At w5 w.heap.size [.int .i64 (A.cap : Int), (.slice sx nx cx), .int .i64 (f1 : Int), .slice (some ⟨g, 0, none⟩) A.cap c3, .slice (some ⟨o, 0, none⟩) A.cap c4] 82 ∧ At w5 (w.heap.size + 1) [.int .i64 0, .slice none 0 0, .int .i64 0, .slice none 0 0, .slice none 0 0] 82 ∧ At w5 g (A.gens.flatMap u32c ++ C3) 27 ∧ At w5 o (A.ons.flatMap boolC ++ C4) 4 ∧ Fr (fun b => b = w.heap.size) w4 w5) ⟨by (repeat (first | assumption | (refine At.new' (by (first | omega | (simp; done) | (simp; omega))) _ _) | apply At.alloc | apply At.drewN | apply At.setRow | (apply At.setRow_neF; first | assumption | (apply Ne.symm; assumption) | omega) | (apply At.extF; assumption))), by (repeat (first | assumption | (refine At.new' (by (first | omega | (simp; done) | (simp; omega))) _ _) | apply At.alloc | apply At.drewN | apply At.setRow | (apply At.setRow_neF; first | assumption | (apply Ne.symm; assumption) | omega) | (apply At.extF; assumption))), by (repeat (first | assumption | (refine At.new' (by (first | omega | (simp; done) | (simp; omega))) _ _) | apply At.alloc | apply At.drewN | apply At.setRow | (apply At.setRow_neF; first | assumption | (apply Ne.symm; assumption) | omega) | (apply At.extF; assumption))), by (repeat (first | assumption | (refine At.new' (by (first | omega | (simp; done) | (simp; omega))) _ _) | apply At.alloc | apply At.drewN | apply At.setRow | (apply At.setRow_neF; first | assumption | (apply Ne.symm; assumption) | omega) | (apply At.extF; assumption))), by (repeat (first | exact Fr.refl _ _ | assumption | apply Fr.drewN | apply Fr.alloc | (apply Fr.transF; assumption) | (refine Fr.setRow ?_ _ (by first | exact Or.inr (by (first | omega | (simp; done) | (simp; omega))) | (exact Or.inl (by first | assumption | (simp; done)))))))⟩ ?_
    rintro w5 ⟨hb5, hr5, hga5, hoa5, hf5⟩
    have hf5' : Fr (fun b => b = w.heap.size ∨ w.heap.size + 1 = b ∨ b = g ∨ b = o) w4 w5 := hf5.mono fun b e => Or.inl e
    clear hf5
    have hgv := u32_get (C := C3) (show k < A.gens.length by rw [gens_len]; omega)
    rw [gens_get A (by omega), show k + 1 = A.top by omega] at hgv
    have hgs := u32_set (C := C3) (x := (A.gen A.top + 1) % 4294967296) (show k < A.gens.length by rw [gens_len]; omega)
    rw [← wrap_u32] at hgs
    have hos := bool_set (C := C4) (x := true) (show k < A.ons.length by rw [ons_len]; omega)
    have hglen : (A.gens.flatMap u32c ++ C3).length = A.cap + C3.length := by rw [List.length_append, flatMap_len u32_len, gens_len]; omega
    have holen : (A.ons.flatMap boolC ++ C4).length = A.cap + C4.length := by rw [List.length_append, flatMap_len boolC_len, ons_len]; omega
    have hgT : A.take.gens = A.gens.set k ((A.gen A.top + 1) % 4294967296) := gens_upd A A.take (by omega) rfl (by show upd A.gen A.top _ = _; rw [htk])
    have hoT : A.take.ons = A.ons.set k true := ons_upd A A.take (by omega) rfl (by show upd A.used A.top true = _; rw [htk])
    rw [← hgT] at hgs
    rw [← hoT] at hos
    repeat (first | refine sp ?_ | (refine is_load ?_; refine ld ?_) | (refine is_store ?_; refine sr ?_) | (refine is_alloc ?_; refine al ?_) | (refine is_box ?_; refine bx ?_) | (refine isl_load ?_; refine ldl ?_) | (refine isl_store ?_; refine srl ?_) | (refine isl_alloc ?_; refine all' ?_) | (refine isl_box ?_; refine bxl ?_))
    refine go_as 49 (u' := .int .i64 (k : Int)) rfl (by congr 1; omega) ?_
    repeat (first | refine sp ?_ | (refine is_load ?_; refine ld ?_) | (refine is_store ?_; refine sr ?_) | (refine is_alloc ?_; refine al ?_) | (refine is_box ?_; refine bx ?_) | (refine isl_load ?_; refine ldl ?_) | (refine isl_store ?_; refine srl ?_) | (refine isl_alloc ?_; refine all' ?_) | (refine isl_box ?_; refine bxl ?_))
    refine go_store rfl rfl (st_at (by (repeat (first | assumption | (refine At.new' (by (first | omega | (simp; done) | (simp; omega))) _ _) | apply At.alloc | apply At.drewN | apply At.setRow | (apply At.setRow_neF; first | assumption | (apply Ne.symm; assumption) | omega) | (apply At.extF; assumption)))) (by rw [hglen]; omega) rfl) ?_
    rw [hgs]
    repeat (first | refine sp ?_ | (refine is_load ?_; refine ld ?_) | (refine is_store ?_; refine sr ?_) | (refine is_alloc ?_; refine al ?_) | (refine is_box ?_; refine bx ?_) | (refine isl_load ?_; refine ldl ?_) | (refine isl_store ?_; refine srl ?_) | (refine isl_alloc ?_; refine all' ?_) | (refine isl_box ?_; refine bxl ?_))
    refine go_as 57 (u' := .int .i64 (k : Int)) rfl (by congr 1; omega) ?_
    repeat (first | refine sp ?_ | (refine is_load ?_; refine ld ?_) | (refine is_store ?_; refine sr ?_) | (refine is_alloc ?_; refine al ?_) | (refine is_box ?_; refine bx ?_) | (refine isl_load ?_; refine ldl ?_) | (refine isl_store ?_; refine srl ?_) | (refine isl_alloc ?_; refine all' ?_) | (refine isl_box ?_; refine bxl ?_))
    refine go_store rfl rfl (st_at (by (repeat (first | assumption | (refine At.new' (by (first | omega | (simp; done) | (simp; omega))) _ _) | apply At.alloc | apply At.drewN | apply At.setRow | (apply At.setRow_neF; first | assumption | (apply Ne.symm; assumption) | omega) | (apply At.extF; assumption)))) (by rw [holen]; omega) rfl) ?_
    rw [hos]
    repeat (first | refine sp ?_ | (refine is_load ?_; refine ld ?_) | (refine is_store ?_; refine sr ?_) | (refine is_alloc ?_; refine al ?_) | (refine is_box ?_; refine bx ?_) | (refine isl_load ?_; refine ldl ?_) | (refine isl_store ?_; refine srl ?_) | (refine isl_alloc ?_; refine all' ?_) | (refine isl_box ?_; refine bxl ?_))
    have hfin : ∀ W, Fr (fun b => b = w.heap.size ∨ w.heap.size + 1 = b ∨ b = g ∨ b = o) w4 W → Ext w W := fun W f => (hx1.trans hx4).trans' f fun b hb e => by omega
    refine go_name (F := fun w6 => At w6 w.heap.size [.int .i64 (A.cap : Int), (.slice sx nx cx), .int .i64 (f1 : Int), .slice (some ⟨g, 0, none⟩) A.cap c3, .slice (some ⟨o, 0, none⟩) A.cap c4] 82 ∧ At w6 (w.heap.size + 1) [.int .i64 (A.cap : Int), (.slice sx nx cx), .int .i64 (f1 : Int), .slice (some ⟨g, 0, none⟩) A.cap c3, .slice (some ⟨o, 0, none⟩) A.cap c4] 82 ∧ At w6 g (A.take.gens.flatMap u32c ++ C3) 27 ∧ At w6 o (A.take.ons.flatMap boolC ++ C4) 4 ∧ Fr (fun b => b = w.heap.size ∨ w.heap.size + 1 = b ∨ b = g ∨ b = o) w4 w6) ⟨by (repeat (first | assumption | (refine At.new' (by (first | omega | (simp; done) | (simp; omega))) _ _) | apply At.alloc | apply At.drewN | apply At.setRow | (apply At.setRow_neF; first | assumption | (apply Ne.symm; assumption) | omega) | (apply At.extF; assumption))), by (repeat (first | assumption | (refine At.new' (by (first | omega | (simp; done) | (simp; omega))) _ _) | apply At.alloc | apply At.drewN | apply At.setRow | (apply At.setRow_neF; first | assumption | (apply Ne.symm; assumption) | omega) | (apply At.extF; assumption))), by (repeat (first | assumption | (refine At.new' (by (first | omega | (simp; done) | (simp; omega))) _ _) | apply At.alloc | apply At.drewN | apply At.setRow | (apply At.setRow_neF; first | assumption | (apply Ne.symm; assumption) | omega) | (apply At.extF; assumption))), by (repeat (first | assumption | (refine At.new' (by (first | omega | (simp; done) | (simp; omega))) _ _) | apply At.alloc | apply At.drewN | apply At.setRow | (apply At.setRow_neF; first | assumption | (apply Ne.symm; assumption) | omega) | (apply At.extF; assumption))), by (repeat (first | exact Fr.refl _ _ | assumption | apply Fr.drewN | apply Fr.alloc | (apply Fr.transF; assumption) | (refine Fr.setRow ?_ _ (by first | exact Or.inr (by (first | omega | (simp; done) | (simp; omega))) | (exact Or.inl (by first | assumption | (simp; done)))))))⟩ ?_
    rintro w6 ⟨hb6, hr6, hga6, hoa6, hf6⟩
    have hX := hfin w6 hf6
    have hres : A.take.fresh + 1 = f1 := hf1
    refine go_ret3 rfl ⟨_, rfl, Ld.run (ld_part (by (repeat (first | assumption | (refine At.new' (by (first | omega | (simp; done) | (simp; omega))) _ _) | apply At.alloc | apply At.drewN | apply At.setRow | (apply At.setRow_neF; first | assumption | (apply Ne.symm; assumption) | omega) | (apply At.extF; assumption)))) rfl rfl)⟩ rfl rfl ⟨_, rfl, (.slice sx nx cx), .slice (some ⟨g, 0, none⟩) A.cap c3, .slice (some ⟨o, 0, none⟩) A.cap c4, ?_, ?_, ?_, ?_, ?_, ?_, hX⟩
    · rw [hres]; rfl
    · refine Rd.frB (hsv1.ext hx4) hf6 fun b hb e => ?_
      have := hbl1 b hb
      have : b < w1.heap.size := by omega
      omega
    · exact rd_of_at hga6 (by rw [gens_len]; rfl) (by omega) (by omega) (by rw [flatMap_len u32_len]; omega)
    · exact rd_of_at hoa6 (by rw [ons_len]; rfl) (by omega) (by omega) (by rw [flatMap_len boolC_len]; omega)
    · rintro b (e | e | e)
      · rcases hbl1 b e with h | h
        · exact Or.inl (Or.inl h.1)
        · right; omega
      · simp only [Value.ownBlock, Option.some.injEq] at e; right; omega
      · simp only [Value.ownBlock, Option.some.injEq] at e; right; omega
    · have := hf6.size
      rintro b (e | e | e)
      · have := hbl1 b e; omega
      · simp only [Value.ownBlock, Option.some.injEq] at e; omega
      · simp only [Value.ownBlock, Option.some.injEq] at e; omega

set_option maxHeartbeats 8000000 in
theorem c_rsRelease (w : World) (lo : Nat) (V : RV) (A : AR) (i : Nat) (hs : Rd w lo V.sv u32c A.rel) (ho : Rd w lo V.ov boolC A.ons) (hg : Rd w lo V.gv u32c A.gens) (hblg : ∀ b, V.gv.ownBlock = some b → b < w.heap.size) (hwf : Wf A) (hi : i < 4294967296) (hu : A.used i = true) (hlo : lo ≤ w.heap.size) :
    Calls Try.prog 86 [.agg ⟨rsC A V⟩, .int .u32 (i : Int)].toArray w (Ret fun r w' => ∃ sv ov, r = .tuple #[.agg ⟨rsC (A.unput i) ⟨V.nb, V.cb, sv, V.gv, ov⟩⟩, .int .i64 0] ∧ NextS w w' lo V (A.unput i) sv V.gv ov) := by
  have hcap := hwf.capM
  have hfr := hwf.fr
  have hrl := rel_le hwf
  obtain ⟨u1, u2⟩ := used_le hwf hu
  obtain ⟨k, rfl⟩ : ∃ k, i = k + 1 := ⟨i - 1, by omega⟩
  obtain ⟨nb, cb, sv, gv, ov⟩ := V
  simp only at hs hg ho hblg
  have ho0 := ho
  obtain ⟨oa, oc, eo, hoc, hor, _⟩ := ho
  rw [ons_len] at eo hoc
  subst eo
  obtain ⟨sa, ca, rfl, hca, hrr, _⟩ := hs
  obtain ⟨n, hn⟩ : ∃ n, A.rel.length = n := ⟨_, rfl⟩
  have hg0 := hg
  obtain ⟨ga, gc, rfl, _⟩ := hg
  rw [gens_len] at hg0 hblg
  have hgen : ∀ w', Ext w w' → Rd w' lo (.slice ga A.cap gc) u32c (A.unput (k + 1)).gens := fun w' f => hg0.ext f
  have hC := fun w0 (f : Ext w w0) => c_rsAllocated w0 lo ⟨nb, cb, .slice sa A.rel.length ca, (.slice ga A.cap gc), .slice oa A.cap oc⟩ A (k + 1) (ho0.ext f) hwf hi
  unfold rsC at hC ⊢
  simp only [hn, gens_len] at hC ⊢
  rw [hn] at hca
  refine calls_go Try.func86 rfl Try.ntmps86 (Nat.le_of_ble_eq_true rfl) ?_
  repeat (first | refine sp ?_ | (refine is_load ?_; refine ld ?_) | (refine is_store ?_; refine sr ?_) | (refine is_alloc ?_; refine al ?_) | (refine is_box ?_; refine bx ?_) | (refine isl_load ?_; refine ldl ?_) | (refine isl_store ?_; refine srl ?_) | (refine isl_alloc ?_; refine all' ?_) | (refine isl_box ?_; refine bxl ?_))
  refine go_call rfl rfl (hC _ (by (repeat (first | exact Fr.refl _ _ | assumption | apply Fr.drewN | apply Fr.alloc | (apply Fr.transF; assumption) | (refine Fr.setRow ?_ _ (by first | exact Or.inr (by (first | omega | (simp; done) | (simp; omega))) | (exact Or.inl (by first | assumption | (simp; done))))))))) ?_
  rintro _ w1 ⟨rfl, hx1⟩
  rw [hu]
  have hx1' : Ext w w1 := Fr.trans (by (repeat (first | exact Fr.refl _ _ | assumption | apply Fr.drewN | apply Fr.alloc | (apply Fr.transF; assumption) | (refine Fr.setRow ?_ _ (by first | exact Or.inr (by (first | omega | (simp; done) | (simp; omega))) | (exact Or.inl (by first | assumption | (simp; done)))))))) hx1
  have hb1 : At w1 w.heap.size [.int .i64 (A.cap : Int), .slice sa n ca, .int .i64 ((A.fresh + 1 : Nat) : Int), (.slice ga A.cap gc), .slice oa A.cap oc] 82 := At.ext (by (repeat (first | assumption | (refine At.new' (by (first | omega | (simp; done) | (simp; omega))) _ _) | apply At.alloc | apply At.drewN | apply At.setRow | (apply At.setRow_neF; first | assumption | (apply Ne.symm; assumption) | omega) | (apply At.extF; assumption)))) hx1
  have hr1 : At w1 (w.heap.size + 1) [.int .i64 0, .slice none 0 0, .int .i64 0, .slice none 0 0, .slice none 0 0] 82 := At.ext (by (repeat (first | assumption | (refine At.new' (by (first | omega | (simp; done) | (simp; omega))) _ _) | apply At.alloc | apply At.drewN | apply At.setRow | (apply At.setRow_neF; first | assumption | (apply Ne.symm; assumption) | omega) | (apply At.extF; assumption)))) hx1
  have hl1 := hr1.lt
  clear hx1
  repeat (first | refine sp ?_ | (refine is_load ?_; refine ld ?_) | (refine is_store ?_; refine sr ?_) | (refine is_alloc ?_; refine al ?_) | (refine is_box ?_; refine bx ?_) | (refine isl_load ?_; refine ldl ?_) | (refine isl_store ?_; refine srl ?_) | (refine isl_alloc ?_; refine all' ?_) | (refine isl_box ?_; refine bxl ?_))
  refine go_appendG (r := n) (lo := w1.heap.size) (q := 0) (xs := []) (by decide) rfl rfl rfl (Own.nil _ _ _ _) (hrr.ext hx1') (by rw [flatMap_len u32_len, hn]) (u32_ones _) (by simp [maxLen]; omega) (by omega) (by simp) ?_
  intro v2 w2 ho2 hg2 _
  have hx2 : Ext w1 w2 := ext_grown (Fr.refl _ _) (Nat.le_refl _) (Own.nil _ w1.heap.size 27 1) hg2
  have hl2 := hx2.size
  repeat (first | refine sp ?_ | (refine is_load ?_; refine ld ?_) | (refine is_store ?_; refine sr ?_) | (refine is_alloc ?_; refine al ?_) | (refine is_box ?_; refine bx ?_) | (refine isl_load ?_; refine ldl ?_) | (refine isl_store ?_; refine srl ?_) | (refine isl_alloc ?_; refine all' ?_) | (refine isl_box ?_; refine bxl ?_))
  refine go_pushG (l := [.int .u32 ((k + 1 : Nat) : Int)]) (by decide) rfl rfl rfl rfl ho2 rfl (one_u32 _) (by omega) (by simp [maxLen]; omega) (by omega) hl2 ?_
  intro v3 w3 ho3 hg3 _
  have hx3 : Ext w1 w3 := ext_pushed hx2 (Nat.le_refl _) ho2 hg3
  have hl3 := hx3.size
  have hlist : ([] : List Value) ++ A.rel.flatMap u32c ++ [.int .u32 ((k + 1 : Nat) : Int)] = (A.unput (k + 1)).rel.flatMap u32c := by
    rw [List.nil_append]
    show _ = (A.rel ++ [k + 1]).flatMap u32c
    rw [List.flatMap_append]; rfl
  rw [hlist] at ho3
  have hrd3 : Rd w3 w1.heap.size v3 u32c (A.unput (k + 1)).rel := Own.rd ho3 (by show _ = (A.rel ++ [k + 1]).length; simp; omega)
  have hown3 : ∀ b, v3.ownBlock = some b → w1.heap.size ≤ b ∧ b < w3.heap.size := fun b hb => World.ownsRow.lt ho3 b hb
  have hb3 := hb1.ext hx3
  have hr3 := hr1.ext hx3
  obtain ⟨sa3, ca3, hv3, _⟩ := ho3.slice
  subst hv3
  repeat (first | refine sp ?_ | (refine is_load ?_; refine ld ?_) | (refine is_store ?_; refine sr ?_) | (refine is_alloc ?_; refine al ?_) | (refine is_box ?_; refine bx ?_) | (refine isl_load ?_; refine ldl ?_) | (refine isl_store ?_; refine srl ?_) | (refine isl_alloc ?_; refine all' ?_) | (refine isl_box ?_; refine bxl ?_))
  refine go_name (F := fun w4 => At w4 w.heap.size [.int .i64 (A.cap : Int), .slice sa3 (0 + n + 1) ca3, .int .i64 ((A.fresh + 1 : Nat) : Int), (.slice ga A.cap gc), .slice oa A.cap oc] 82 ∧ At w4 (w.heap.size + 1) [.int .i64 0, .slice none 0 0, .int .i64 0, .slice none 0 0, .slice none 0 0] 82 ∧ Fr (fun b => b = w.heap.size) w3 w4) ⟨by (repeat (first | assumption | (refine At.new' (by (first | omega | (simp; done) | (simp; omega))) _ _) | apply At.alloc | apply At.drewN | apply At.setRow | (apply At.setRow_neF; first | assumption | (apply Ne.symm; assumption) | omega) | (apply At.extF; assumption))), by (repeat (first | assumption | (refine At.new' (by (first | omega | (simp; done) | (simp; omega))) _ _) | apply At.alloc | apply At.drewN | apply At.setRow | (apply At.setRow_neF; first | assumption | (apply Ne.symm; assumption) | omega) | (apply At.extF; assumption))), by (repeat (first | exact Fr.refl _ _ | assumption | apply Fr.drewN | apply Fr.alloc | (apply Fr.transF; assumption) | (refine Fr.setRow ?_ _ (by first | exact Or.inr (by (first | omega | (simp; done) | (simp; omega))) | (exact Or.inl (by first | assumption | (simp; done)))))))⟩ ?_
  rintro w4 ⟨hb4, hr4, hf4⟩
  have hX4 : Ext w w4 := (hx1'.trans hx3).trans' hf4 fun b hb e => by omega
  have hl4 := hf4.size
  refine go_appendG (r := A.cap) (lo := w4.heap.size) (q := 0) (xs := []) (by decide) rfl rfl rfl (Own.nil _ _ _ _) (hor.ext hX4) (by rw [flatMap_len boolC_len, ons_len]) (bool_ones _) (by simp [maxLen]; omega) (by omega) (by simp) ?_
  intro v5 w5 ho5 hg5 _
  have hx5 : Ext w4 w5 := ext_grown (Fr.refl _ _) (Nat.le_refl _) (Own.nil _ w4.heap.size 4 1) hg5
  obtain ⟨o, c4, C4, rfl, hol, hoa, hoc4, _, _, _⟩ := ho5.block1 (by omega)
  rw [List.nil_append] at hoa
  simp only [Nat.zero_add] at hoc4 ⊢
  have hb5 := hb4.ext hx5
  have hr5 := hr4.ext hx5
  have hoB : o ≠ w.heap.size := by omega
  have hoR : o ≠ w.heap.size + 1 := by omega
  have hol5 := hoa.lt
  have hl5 := hx5.size
  have hos := bool_set (C := C4) (x := false) (show k < A.ons.length by rw [ons_len]; omega)
  have holen : (A.ons.flatMap boolC ++ C4).length = A.cap + C4.length := by rw [List.length_append, flatMap_len boolC_len, ons_len]; omega
  have hoT : (A.unput (k + 1)).ons = A.ons.set k false := ons_upd A (A.unput (k + 1)) (by omega) rfl rfl
  rw [← hoT] at hos
  repeat (first | refine sp ?_ | (refine is_load ?_; refine ld ?_) | (refine is_store ?_; refine sr ?_) | (refine is_alloc ?_; refine al ?_) | (refine is_box ?_; refine bx ?_) | (refine isl_load ?_; refine ldl ?_) | (refine isl_store ?_; refine srl ?_) | (refine isl_alloc ?_; refine all' ?_) | (refine isl_box ?_; refine bxl ?_))
  refine go_as 25 (u' := .int .u32 (k : Int)) rfl (by congr 1; omega) ?_
  repeat (first | refine sp ?_ | (refine is_load ?_; refine ld ?_) | (refine is_store ?_; refine sr ?_) | (refine is_alloc ?_; refine al ?_) | (refine is_box ?_; refine bx ?_) | (refine isl_load ?_; refine ldl ?_) | (refine isl_store ?_; refine srl ?_) | (refine isl_alloc ?_; refine all' ?_) | (refine isl_box ?_; refine bxl ?_))
  refine go_store rfl rfl (st_at (by (repeat (first | assumption | (refine At.new' (by (first | omega | (simp; done) | (simp; omega))) _ _) | apply At.alloc | apply At.drewN | apply At.setRow | (apply At.setRow_neF; first | assumption | (apply Ne.symm; assumption) | omega) | (apply At.extF; assumption)))) (by rw [holen]; omega) rfl) ?_
  rw [hos]
  repeat (first | refine sp ?_ | (refine is_load ?_; refine ld ?_) | (refine is_store ?_; refine sr ?_) | (refine is_alloc ?_; refine al ?_) | (refine is_box ?_; refine bx ?_) | (refine isl_load ?_; refine ldl ?_) | (refine isl_store ?_; refine srl ?_) | (refine isl_alloc ?_; refine all' ?_) | (refine isl_box ?_; refine bxl ?_))
  refine go_name (F := fun w6 => At w6 (w.heap.size + 1) [.int .i64 (A.cap : Int), .slice sa3 (0 + n + 1) ca3, .int .i64 ((A.fresh + 1 : Nat) : Int), (.slice ga A.cap gc), .slice (some ⟨o, 0, none⟩) A.cap c4] 82 ∧ At w6 o ((A.unput (k + 1)).ons.flatMap boolC ++ C4) 4 ∧ Fr (fun b => b = w.heap.size ∨ w.heap.size + 1 = b ∨ b = o) w5 w6) ⟨by (repeat (first | assumption | (refine At.new' (by (first | omega | (simp; done) | (simp; omega))) _ _) | apply At.alloc | apply At.drewN | apply At.setRow | (apply At.setRow_neF; first | assumption | (apply Ne.symm; assumption) | omega) | (apply At.extF; assumption))), by (repeat (first | assumption | (refine At.new' (by (first | omega | (simp; done) | (simp; omega))) _ _) | apply At.alloc | apply At.drewN | apply At.setRow | (apply At.setRow_neF; first | assumption | (apply Ne.symm; assumption) | omega) | (apply At.extF; assumption))), by (repeat (first | exact Fr.refl _ _ | assumption | apply Fr.drewN | apply Fr.alloc | (apply Fr.transF; assumption) | (refine Fr.setRow ?_ _ (by first | exact Or.inr (by (first | omega | (simp; done) | (simp; omega))) | (exact Or.inl (by first | assumption | (simp; done)))))))⟩ ?_
  rintro w6 ⟨hr6, hoa6, hf6⟩
  have hF : Fr (fun b => b = w.heap.size ∨ w.heap.size + 1 = b ∨ b = o) w3 w6 := (hf4.mono fun b e => Or.inl e).trans ((hx5.mono fun _ e => e.elim).trans hf6)
  have hX : Ext w w6 := (hX4.trans hx5).trans' hf6 fun b hb e => by omega
  refine go_ret2 rfl ⟨_, rfl, Ld.run (ld_part (by (repeat (first | assumption | (refine At.new' (by (first | omega | (simp; done) | (simp; omega))) _ _) | apply At.alloc | apply At.drewN | apply At.setRow | (apply At.setRow_neF; first | assumption | (apply Ne.symm; assumption) | omega) | (apply At.extF; assumption)))) rfl rfl)⟩ rfl ⟨_, rfl, .slice sa3 (0 + n + 1) ca3, .slice (some ⟨o, 0, none⟩) A.cap c4, rfl, ?_, hgen w6 hX, ?_, ?_, ?_, hX⟩
  · exact (Rd.frB hrd3 hF fun b hb e => by have := hown3 b hb; omega).mono (show lo ≤ w1.heap.size by have := hx1'.size; omega)
  · exact rd_of_at hoa6 (by rw [ons_len]; rfl) (by omega) (by omega) (by rw [flatMap_len boolC_len]; omega)
  · rintro b (e | e | e)
    · have := hown3 b e; right; omega
    · exact Or.inl (Or.inr (Or.inl e))
    · simp only [Value.ownBlock, Option.some.injEq] at e; right; omega
  · have := hF.size
    rintro b (e | e | e)
    · have := hown3 b e; omega
    · have := hblg b e; omega
    · have := hf6.size
      simp only [Value.ownBlock, Option.some.injEq] at e; omega

end Go.Proofs.Ytapocbahkeoeoaa
