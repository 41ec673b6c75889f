/-
  Lists of entries in the order of their keys; how many reads a function made.
-/
import Derived.Test.YteghhalnpdikoaaPl
import Derived.Test.YteghhalnpdikoaaS8
set_option linter.unusedVariables false
namespace Go.Proofs.Yteghhalnpdikoaa
open Go.Vc

def insGo (e : Int × Int) : Bool → List (Int × Int) → List (Int × Int)
  | p, [] => if p = true then [] else [e]
  | p, x :: xs => (if p = false ∧ e.1 ≤ x.1 then [e] else []) ++ ((if x.1 ≠ e.1 then [x] else []) ++ insGo e (p || decide (e.1 ≤ x.1)) xs)
def ins (l : List (Int × Int)) (e : Int × Int) : List (Int × Int) := insGo e false l

theorem insGo_true (e : Int × Int) : ∀ l, insGo e true l = l.filter (fun x => decide (x.1 ≠ e.1))
  | [] => rfl
  | x :: xs => by
    simp only [insGo, Bool.true_or, insGo_true e xs, List.filter_cons]
    by_cases h : x.1 = e.1 <;> simp [h]
theorem insGo_mem {e y : Int × Int} : ∀ {l : List (Int × Int)} {p : Bool}, y ∈ insGo e p l → y = e ∨ y ∈ l
  | [], p, h => by
    unfold insGo at h
    split at h
    · cases h
    · simp at h; exact Or.inl h
  | x :: xs, p, h => by
    simp only [insGo, List.mem_append] at h
    rcases h with h | h | h
    · split at h
      · simp at h; exact Or.inl h
      · cases h
    · split at h
      · simp at h; subst h; exact Or.inr (by simp)
      · cases h
    · rcases insGo_mem h with h | h
      · exact Or.inl h
      · exact Or.inr (by simp [h])
theorem insGo_len {e : Int × Int} : ∀ (l : List (Int × Int)) (p : Bool), (insGo e p l).length ≤ l.length + (if p = true then 0 else 1)
  | [], p => by unfold insGo; cases p <;> simp
  | x :: xs, p => by
    simp only [insGo, List.length_append, List.length_cons]
    have ih := insGo_len (e := e) xs (p || decide (e.1 ≤ x.1))
    have h1 : (if x.1 ≠ e.1 then [x] else []).length ≤ 1 := by split <;> simp
    cases p with
    | true => simp at ih ⊢; simp at h1; omega
    | false =>
      by_cases h : e.1 ≤ x.1
      · simp [h] at ih ⊢; simp at h1; omega
      · simp [h] at ih ⊢; simp at h1; omega
theorem ins_srt {e : Int × Int} : ∀ {l : List (Int × Int)}, Srt l → Srt (ins l e)
  | [], _ => by simp [ins, insGo, Srt]
  | x :: xs, h => by
    obtain ⟨h1, h2⟩ := List.pairwise_cons.1 h
    unfold ins
    by_cases hx : e.1 ≤ x.1
    · have e1 : insGo e false (x :: xs) = [e] ++ (x :: xs).filter (fun y => decide (y.1 ≠ e.1)) := by
        simp only [insGo, hx, and_self, if_true, decide_true, Bool.or_true, insGo_true]
        by_cases h : x.1 = e.1 <;> simp [h]
      rw [e1]
      refine List.pairwise_cons.2 ⟨fun y hy => ?_, List.Pairwise.filter _ h⟩
      obtain ⟨hy1, hy2⟩ := List.mem_filter.1 hy
      have hy2 : y.1 ≠ e.1 := of_decide_eq_true hy2
      rcases List.mem_cons.1 hy1 with rfl | hy3
      · omega
      · have := h1 y hy3; omega
    · have e1 : insGo e false (x :: xs) = x :: insGo e false xs := by
        have hne : x.1 ≠ e.1 := by omega
        simp [insGo, hx, hne]
      rw [e1]
      refine List.pairwise_cons.2 ⟨fun y hy => ?_, ins_srt h2⟩
      rcases insGo_mem hy with rfl | hy
      · omega
      · exact h1 y hy

/-- The slice is the function's own: it holds entries. -/
def OwnE (w : World) (lo : Nat) (v : Value) (l : List (Int × Int)) : Prop := Own w lo 72 2 v l.length (l.flatMap entC)
theorem OwnE.mono {w : World} {lo lo' : Nat} {v : Value} {l : List (Int × Int)} (h : OwnE w lo v l) (hl : lo' ≤ lo) : OwnE w lo' v l :=
  ⟨h.1, h.2.imp id (fun ⟨g, cap, cur, a, b, c⟩ => ⟨g, cap, cur, a, Nat.le_trans hl b, c⟩)⟩
theorem OwnE.rd {w : World} {lo : Nat} {v : Value} {l : List (Int × Int)} (h : OwnE w lo v l) : Rd w lo v entC l := Own.rd h rfl

set_option maxHeartbeats 4000000 in
theorem c_Insert (w : World) (hi : Nat) (lv : Value) (l : List (Int × Int)) (e : Int × Int) (hr : RdU w hi lv entC l) (hh : hi ≤ w.heap.size) (hlen : l.length ≤ 10000) :
    Calls Try.prog 43 [lv, .agg ⟨entC e⟩].toArray w (Ret fun v w' => OwnE w' w.heap.size v (ins l e) ∧ Ext w w') := by
  have hr0 := hr
  obtain ⟨sa, cap, rfl, hlc, _, _⟩ := hr0
  unfold entC
  refine calls_go Try.func43 rfl Try.ntmps43 (Nat.le_of_ble_eq_true rfl) ?_
  repeat (first | refine sp ?_ | (refine is_load ?_; refine ld ?_) | (refine is_store ?_; refine sr ?_) | (refine is_alloc ?_; refine al ?_) | (refine is_box ?_; refine bx ?_) | (refine isl_load ?_; refine ldl ?_) | (refine isl_store ?_; refine srl ?_) | (refine isl_alloc ?_; refine all' ?_) | (refine isl_box ?_; refine bxl ?_) | refine dr Try.follows ?_)
  refine go_loop (G := Nat × Bool × Value × List (Int × Int)) [5, 6, 7] (fun ⟨k, p, v, _⟩ => [v, .bool p, .int .i64 (k : Int)]) [(0, .slice sa l.length cap), (3, ptr w.heap.size)]
    (fun ⟨k, p, v, a⟩ w' => k ≤ l.length ∧ Ext w w' ∧ At w' w.heap.size (entC e) 72 ∧ OwnE w' (w.heap.size + 1) v a ∧ a ++ insGo e p (l.drop k) = ins l e ∧ a.length ≤ 2 * k ∧ w.heap.size + 1 ≤ w'.heap.size)
    (fun g => l.length - g.1) (0, false, .slice none 0 0, []) rfl ⟨rfl, rfl, trivial⟩ ⟨by omega, by (repeat (first | exact Fr.refl _ _ | assumption | apply Fr.drewN | apply Fr.alloc | (apply Fr.transF; assumption) | (refine Fr.setRow ?_ _ (by first | exact Or.inr (by (first | omega | (simp; done) | (simp; omega))) | (exact Or.inl (by first | assumption | (simp; done))))))), by (repeat (first | assumption | (refine At.new' (by (first | omega | (simp; done) | (simp; omega))) _ _) | apply At.alloc | apply At.drewN | apply At.setRow | (apply At.setRow_neF; first | assumption | (apply Ne.symm; assumption) | omega) | (apply At.extF; assumption))), Own.nil _ _ _ _, rfl, by simp, by simp⟩ ?_
  rintro ⟨k, p, v, a⟩ w1 ⟨hk, hx1, hb1, ho1, heq, hal, hl1⟩
  unfold OwnE at ho1
  obtain ⟨sv, cv, rfl, _, _⟩ := ho1.slice
  by_cases hlt : k < l.length
  · obtain ⟨b, o, es, hbl, hcell⟩ := (hr.ext hx1).at (m := 2) (fun _ => rfl) (by omega) hlt
    subst es
    have e0 := hcell 0 (.int .i64 l[k].1) rfl
    have hdr : l.drop k = l[k] :: l.drop (k + 1) := List.drop_eq_getElem_cons hlt
    rw [hdr] at heq
    simp only [insGo] at heq
    obtain ⟨x, hxx⟩ : ∃ x, l[k] = x := ⟨_, rfl⟩
    rw [hxx] at e0 heq hcell
    cases p with
    | false =>
      by_cases hle : e.1 ≤ x.1
      · repeat (first | refine sp ?_ | (refine is_load ?_; refine ld ?_) | (refine is_store ?_; refine sr ?_) | (refine is_alloc ?_; refine al ?_) | (refine is_box ?_; refine bx ?_) | (refine isl_load ?_; refine ldl ?_) | (refine isl_store ?_; refine srl ?_) | (refine isl_alloc ?_; refine all' ?_) | (refine isl_box ?_; refine bxl ?_) | refine dr Try.follows ?_)
        refine go_name (F := fun w1 => Ext w w1 ∧ At w1 w.heap.size (entC e) 72 ∧ OwnE w1 (w.heap.size + 1) (.slice sv a.length cv) a ∧ (∀ j u, (entC x)[j]? = some u → w1.cell? ⟨b, o + k * 2 + j, none⟩ = some u) ∧ w.heap.size + 1 ≤ w1.heap.size) ⟨by (repeat (first | exact Fr.refl _ _ | assumption | apply Fr.drewN | apply Fr.alloc | (apply Fr.transF; assumption) | (refine Fr.setRow ?_ _ (by first | exact Or.inr (by (first | omega | (simp; done) | (simp; omega))) | (exact Or.inl (by first | assumption | (simp; done))))))), by (repeat (first | assumption | (refine At.new' (by (first | omega | (simp; done) | (simp; omega))) _ _) | apply At.alloc | apply At.drewN | apply At.setRow | (apply At.setRow_neF; first | assumption | (apply Ne.symm; assumption) | omega) | (apply At.extF; assumption))), Own.ext ho1 (by (repeat (first | exact Fr.refl _ _ | assumption | apply Fr.drewN | apply Fr.alloc | (apply Fr.transF; assumption) | (refine Fr.setRow ?_ _ (by first | exact Or.inr (by (first | omega | (simp; done) | (simp; omega))) | (exact Or.inl (by first | assumption | (simp; done)))))))), fun j u hj => Fr.cell (S := fun _ => False) (by (repeat (first | exact Fr.refl _ _ | assumption | apply Fr.drewN | apply Fr.alloc | (apply Fr.transF; assumption) | (refine Fr.setRow ?_ _ (by first | exact Or.inr (by (first | omega | (simp; done) | (simp; omega))) | (exact Or.inl (by first | assumption | (simp; done)))))))) (hcell j u hj) id, by first | omega | (simp; omega)⟩ ?_
        rintro w1 ⟨hx1, hb1, ho1, hcell, hl1⟩
        unfold OwnE at ho1
        refine go_pushG (l := entC e) (by decide) rfl rfl rfl rfl ho1 rfl (by simp [Value.oneCell']) (by omega) (by simp [maxLen]; omega) (by omega) (by omega) ?_
        intro v2 w2 ho2' hg2 _
        have hx2 : Ext w w2 := ext_grown hx1 (by omega) ho1 hg2
        have hb2 := hb1.fr (Fr.of_grown hg2) (fun e => by have := (World.ownsRow.lt ho1 _ e).1; omega)
        have hsz2 := hg2.size
        have ho2 : OwnE w2 (w.heap.size + 1) v2 (a ++ [e]) := by unfold OwnE; rw [List.flatMap_append, List.length_append]; simpa using ho2'
        unfold OwnE at ho2
        obtain ⟨sv2, cv2, rfl, _, _⟩ := ho2.slice
        have hcell2 : ∀ j u, (entC x)[j]? = some u → w2.cell? ⟨b, o + k * 2 + j, none⟩ = some u := fun j u hj => (Fr.of_grown hg2).cell (hcell j u hj) (fun e => by have := (World.ownsRow.lt ho1 _ e).1; have e' : b < hi := hbl; simp only at this; omega)
        have hl2 : w.heap.size + 1 ≤ w2.heap.size := by omega
        have hla : (a ++ [e]).length = a.length + 1 := by simp
        have e02 := hcell2 0 (.int .i64 x.1) rfl
        by_cases hne : x.1 = e.1
        · repeat (first | refine sp ?_ | (refine is_load ?_; refine ld ?_) | (refine is_store ?_; refine sr ?_) | (refine is_alloc ?_; refine al ?_) | (refine is_box ?_; refine bx ?_) | (refine isl_load ?_; refine ldl ?_) | (refine isl_store ?_; refine srl ?_) | (refine isl_alloc ?_; refine all' ?_) | (refine isl_box ?_; refine bxl ?_) | refine dr Try.follows ?_)
          refine go_stop (G := Nat × Bool × Value × List (Int × Int)) (k + 1, true, _, a ++ [e]) rfl ⟨rfl, rfl, trivial⟩ ⟨hlt, by (repeat (first | exact Fr.refl _ _ | assumption | apply Fr.drewN | apply Fr.alloc | (apply Fr.transF; assumption) | (refine Fr.setRow ?_ _ (by first | exact Or.inr (by (first | omega | (simp; done) | (simp; omega))) | (exact Or.inl (by first | assumption | (simp; done))))))), by (repeat (first | assumption | (refine At.new' (by (first | omega | (simp; done) | (simp; omega))) _ _) | apply At.alloc | apply At.drewN | apply At.setRow | (apply At.setRow_neF; first | assumption | (apply Ne.symm; assumption) | omega) | (apply At.extF; assumption))), Own.ext ho2 (by (repeat (first | exact Fr.refl _ _ | assumption | apply Fr.drewN | apply Fr.alloc | (apply Fr.transF; assumption) | (refine Fr.setRow ?_ _ (by first | exact Or.inr (by (first | omega | (simp; done) | (simp; omega))) | (exact Or.inl (by first | assumption | (simp; done)))))))), ?_, ?_, by first | omega | (simp; omega)⟩ (by show l.length - (k + 1) < l.length - k; omega)
          · rw [← heq]; simp [hle, hne]
          · simp; omega
        · repeat (first | refine sp ?_ | (refine is_load ?_; refine ld ?_) | (refine is_store ?_; refine sr ?_) | (refine is_alloc ?_; refine al ?_) | (refine is_box ?_; refine bx ?_) | (refine isl_load ?_; refine ldl ?_) | (refine isl_store ?_; refine srl ?_) | (refine isl_alloc ?_; refine all' ?_) | (refine isl_box ?_; refine bxl ?_) | refine dr Try.follows ?_)
          refine go_name (F := fun w2 => Ext w w2 ∧ At w2 w.heap.size (entC e) 72 ∧ OwnE w2 (w.heap.size + 1) (.slice sv2 (a ++ [e]).length cv2) (a ++ [e]) ∧ (∀ j u, (entC x)[j]? = some u → w2.cell? ⟨b, o + k * 2 + j, none⟩ = some u) ∧ w.heap.size + 1 ≤ w2.heap.size) ⟨by (repeat (first | exact Fr.refl _ _ | assumption | apply Fr.drewN | apply Fr.alloc | (apply Fr.transF; assumption) | (refine Fr.setRow ?_ _ (by first | exact Or.inr (by (first | omega | (simp; done) | (simp; omega))) | (exact Or.inl (by first | assumption | (simp; done))))))), by (repeat (first | assumption | (refine At.new' (by (first | omega | (simp; done) | (simp; omega))) _ _) | apply At.alloc | apply At.drewN | apply At.setRow | (apply At.setRow_neF; first | assumption | (apply Ne.symm; assumption) | omega) | (apply At.extF; assumption))), Own.ext ho2 (by (repeat (first | exact Fr.refl _ _ | assumption | apply Fr.drewN | apply Fr.alloc | (apply Fr.transF; assumption) | (refine Fr.setRow ?_ _ (by first | exact Or.inr (by (first | omega | (simp; done) | (simp; omega))) | (exact Or.inl (by first | assumption | (simp; done)))))))), fun j u hj => Fr.cell (S := fun _ => False) (by (repeat (first | exact Fr.refl _ _ | assumption | apply Fr.drewN | apply Fr.alloc | (apply Fr.transF; assumption) | (refine Fr.setRow ?_ _ (by first | exact Or.inr (by (first | omega | (simp; done) | (simp; omega))) | (exact Or.inl (by first | assumption | (simp; done)))))))) (hcell2 j u hj) id, by first | omega | (simp; omega)⟩ ?_
          rintro w2 ⟨hx2, hb2, ho2, hcell2, hl2⟩
          unfold OwnE at ho2
          have hlx : ∀ j u, (entC x)[j]? = some u → w2.cell? ((⟨b, o + k * 2, none⟩ : Addr).add j) = some u := fun j u hj => by rw [addr_add]; exact hcell2 j u hj
          refine go_load (v := .agg (entC x).toArray) rfl rfl (ld_cells (m := 2) rfl (by decide) hlx) ?_
          unfold entC
          repeat (first | refine sp ?_ | (refine is_load ?_; refine ld ?_) | (refine is_store ?_; refine sr ?_) | (refine is_alloc ?_; refine al ?_) | (refine is_box ?_; refine bx ?_) | (refine isl_load ?_; refine ldl ?_) | (refine isl_store ?_; refine srl ?_) | (refine isl_alloc ?_; refine all' ?_) | (refine isl_box ?_; refine bxl ?_) | refine dr Try.follows ?_)
          refine go_pushG (l := entC x) (by decide) rfl rfl rfl rfl ho2 rfl (by simp [Value.oneCell']) (by omega) (by simp [maxLen]; omega) (by omega) (by omega) ?_
          intro v3 w3 ho3' hg3 _
          have hx3 : Ext w w3 := ext_grown hx2 (by omega) ho2 hg3
          have hb3 := hb2.fr (Fr.of_grown hg3) (fun e => by have := (World.ownsRow.lt ho2 _ e).1; omega)
          have hsz3 := hg3.size
          have ho3 : OwnE w3 (w.heap.size + 1) v3 ((a ++ [e]) ++ [x]) := by unfold OwnE; rw [List.flatMap_append, List.length_append]; simpa using ho3'
          unfold OwnE at ho3
          obtain ⟨sv3, cv3, rfl, _, _⟩ := ho3.slice
          repeat (first | refine sp ?_ | (refine is_load ?_; refine ld ?_) | (refine is_store ?_; refine sr ?_) | (refine is_alloc ?_; refine al ?_) | (refine is_box ?_; refine bx ?_) | (refine isl_load ?_; refine ldl ?_) | (refine isl_store ?_; refine srl ?_) | (refine isl_alloc ?_; refine all' ?_) | (refine isl_box ?_; refine bxl ?_) | refine dr Try.follows ?_)
          refine go_stop (G := Nat × Bool × Value × List (Int × Int)) (k + 1, true, _, a ++ [e] ++ [x]) rfl ⟨rfl, rfl, trivial⟩ ⟨hlt, hx3, hb3, ho3, ?_, ?_, by have := hx3.size; omega⟩ (by show l.length - (k + 1) < l.length - k; omega)
          · rw [← heq]; simp [hle, hne]
          · simp; omega
      · have hne : x.1 ≠ e.1 := by omega
        repeat (first | refine sp ?_ | (refine is_load ?_; refine ld ?_) | (refine is_store ?_; refine sr ?_) | (refine is_alloc ?_; refine al ?_) | (refine is_box ?_; refine bx ?_) | (refine isl_load ?_; refine ldl ?_) | (refine isl_store ?_; refine srl ?_) | (refine isl_alloc ?_; refine all' ?_) | (refine isl_box ?_; refine bxl ?_) | refine dr Try.follows ?_)
        refine go_name (F := fun w1 => Ext w w1 ∧ At w1 w.heap.size (entC e) 72 ∧ OwnE w1 (w.heap.size + 1) (.slice sv a.length cv) a ∧ (∀ j u, (entC x)[j]? = some u → w1.cell? ⟨b, o + k * 2 + j, none⟩ = some u) ∧ w.heap.size + 1 ≤ w1.heap.size) ⟨by (repeat (first | exact Fr.refl _ _ | assumption | apply Fr.drewN | apply Fr.alloc | (apply Fr.transF; assumption) | (refine Fr.setRow ?_ _ (by first | exact Or.inr (by (first | omega | (simp; done) | (simp; omega))) | (exact Or.inl (by first | assumption | (simp; done))))))), by (repeat (first | assumption | (refine At.new' (by (first | omega | (simp; done) | (simp; omega))) _ _) | apply At.alloc | apply At.drewN | apply At.setRow | (apply At.setRow_neF; first | assumption | (apply Ne.symm; assumption) | omega) | (apply At.extF; assumption))), Own.ext ho1 (by (repeat (first | exact Fr.refl _ _ | assumption | apply Fr.drewN | apply Fr.alloc | (apply Fr.transF; assumption) | (refine Fr.setRow ?_ _ (by first | exact Or.inr (by (first | omega | (simp; done) | (simp; omega))) | (exact Or.inl (by first | assumption | (simp; done)))))))), fun j u hj => Fr.cell (S := fun _ => False) (by (repeat (first | exact Fr.refl _ _ | assumption | apply Fr.drewN | apply Fr.alloc | (apply Fr.transF; assumption) | (refine Fr.setRow ?_ _ (by first | exact Or.inr (by (first | omega | (simp; done) | (simp; omega))) | (exact Or.inl (by first | assumption | (simp; done)))))))) (hcell j u hj) id, by first | omega | (simp; omega)⟩ ?_
        rintro w1 ⟨hx1, hb1, ho1, hcell, hl1⟩
        unfold OwnE at ho1
        have hlx : ∀ j u, (entC x)[j]? = some u → w1.cell? ((⟨b, o + k * 2, none⟩ : Addr).add j) = some u := fun j u hj => by rw [addr_add]; exact hcell j u hj
        refine go_load (v := .agg (entC x).toArray) rfl rfl (ld_cells (m := 2) rfl (by decide) hlx) ?_
        unfold entC
        repeat (first | refine sp ?_ | (refine is_load ?_; refine ld ?_) | (refine is_store ?_; refine sr ?_) | (refine is_alloc ?_; refine al ?_) | (refine is_box ?_; refine bx ?_) | (refine isl_load ?_; refine ldl ?_) | (refine isl_store ?_; refine srl ?_) | (refine isl_alloc ?_; refine all' ?_) | (refine isl_box ?_; refine bxl ?_) | refine dr Try.follows ?_)
        refine go_pushG (l := entC x) (by decide) rfl rfl rfl rfl ho1 rfl (by simp [Value.oneCell']) (by omega) (by simp [maxLen]; omega) (by omega) (by omega) ?_
        intro v2 w2 ho2' hg2 _
        have hx2 : Ext w w2 := ext_grown hx1 (by omega) ho1 hg2
        have hb2 := hb1.fr (Fr.of_grown hg2) (fun e => by have := (World.ownsRow.lt ho1 _ e).1; omega)
        have hsz2 := hg2.size
        have ho2 : OwnE w2 (w.heap.size + 1) v2 (a ++ [x]) := by unfold OwnE; rw [List.flatMap_append, List.length_append]; simpa using ho2'
        unfold OwnE at ho2
        obtain ⟨sv2, cv2, rfl, _, _⟩ := ho2.slice
        repeat (first | refine sp ?_ | (refine is_load ?_; refine ld ?_) | (refine is_store ?_; refine sr ?_) | (refine is_alloc ?_; refine al ?_) | (refine is_box ?_; refine bx ?_) | (refine isl_load ?_; refine ldl ?_) | (refine isl_store ?_; refine srl ?_) | (refine isl_alloc ?_; refine all' ?_) | (refine isl_box ?_; refine bxl ?_) | refine dr Try.follows ?_)
        refine go_stop (G := Nat × Bool × Value × List (Int × Int)) (k + 1, false, _, a ++ [x]) rfl ⟨rfl, rfl, trivial⟩ ⟨hlt, by (repeat (first | exact Fr.refl _ _ | assumption | apply Fr.drewN | apply Fr.alloc | (apply Fr.transF; assumption) | (refine Fr.setRow ?_ _ (by first | exact Or.inr (by (first | omega | (simp; done) | (simp; omega))) | (exact Or.inl (by first | assumption | (simp; done))))))), by (repeat (first | assumption | (refine At.new' (by (first | omega | (simp; done) | (simp; omega))) _ _) | apply At.alloc | apply At.drewN | apply At.setRow | (apply At.setRow_neF; first | assumption | (apply Ne.symm; assumption) | omega) | (apply At.extF; assumption))), Own.ext ho2 (by (repeat (first | exact Fr.refl _ _ | assumption | apply Fr.drewN | apply Fr.alloc | (apply Fr.transF; assumption) | (refine Fr.setRow ?_ _ (by first | exact Or.inr (by (first | omega | (simp; done) | (simp; omega))) | (exact Or.inl (by first | assumption | (simp; done)))))))), ?_, ?_, by first | omega | (simp; omega)⟩ (by show l.length - (k + 1) < l.length - k; omega)
        · rw [← heq]; simp [hle, hne]
        · simp; omega
    | true =>
      by_cases hne : x.1 = e.1
      · repeat (first | refine sp ?_ | (refine is_load ?_; refine ld ?_) | (refine is_store ?_; refine sr ?_) | (refine is_alloc ?_; refine al ?_) | (refine is_box ?_; refine bx ?_) | (refine isl_load ?_; refine ldl ?_) | (refine isl_store ?_; refine srl ?_) | (refine isl_alloc ?_; refine all' ?_) | (refine isl_box ?_; refine bxl ?_) | refine dr Try.follows ?_)
        refine go_stop (G := Nat × Bool × Value × List (Int × Int)) (k + 1, true, _, a) rfl ⟨rfl, rfl, trivial⟩ ⟨hlt, by (repeat (first | exact Fr.refl _ _ | assumption | apply Fr.drewN | apply Fr.alloc | (apply Fr.transF; assumption) | (refine Fr.setRow ?_ _ (by first | exact Or.inr (by (first | omega | (simp; done) | (simp; omega))) | (exact Or.inl (by first | assumption | (simp; done))))))), by (repeat (first | assumption | (refine At.new' (by (first | omega | (simp; done) | (simp; omega))) _ _) | apply At.alloc | apply At.drewN | apply At.setRow | (apply At.setRow_neF; first | assumption | (apply Ne.symm; assumption) | omega) | (apply At.extF; assumption))), Own.ext ho1 (by (repeat (first | exact Fr.refl _ _ | assumption | apply Fr.drewN | apply Fr.alloc | (apply Fr.transF; assumption) | (refine Fr.setRow ?_ _ (by first | exact Or.inr (by (first | omega | (simp; done) | (simp; omega))) | (exact Or.inl (by first | assumption | (simp; done)))))))), ?_, ?_, by first | omega | (simp; omega)⟩ (by show l.length - (k + 1) < l.length - k; omega)
        · rw [← heq]; simp [hne]
        · omega
      · repeat (first | refine sp ?_ | (refine is_load ?_; refine ld ?_) | (refine is_store ?_; refine sr ?_) | (refine is_alloc ?_; refine al ?_) | (refine is_box ?_; refine bx ?_) | (refine isl_load ?_; refine ldl ?_) | (refine isl_store ?_; refine srl ?_) | (refine isl_alloc ?_; refine all' ?_) | (refine isl_box ?_; refine bxl ?_) | refine dr Try.follows ?_)
        refine go_name (F := fun w1 => Ext w w1 ∧ At w1 w.heap.size (entC e) 72 ∧ OwnE w1 (w.heap.size + 1) (.slice sv a.length cv) a ∧ (∀ j u, (entC x)[j]? = some u → w1.cell? ⟨b, o + k * 2 + j, none⟩ = some u) ∧ w.heap.size + 1 ≤ w1.heap.size) ⟨by (repeat (first | exact Fr.refl _ _ | assumption | apply Fr.drewN | apply Fr.alloc | (apply Fr.transF; assumption) | (refine Fr.setRow ?_ _ (by first | exact Or.inr (by (first | omega | (simp; done) | (simp; omega))) | (exact Or.inl (by first | assumption | (simp; done))))))), by (repeat (first | assumption | (refine At.new' (by (first | omega | (simp; done) | (simp; omega))) _ _) | apply At.alloc | apply At.drewN | apply At.setRow | (apply At.setRow_neF; first | assumption | (apply Ne.symm; assumption) | omega) | (apply At.extF; assumption))), Own.ext ho1 (by (repeat (first | exact Fr.refl _ _ | assumption | apply Fr.drewN | apply Fr.alloc | (apply Fr.transF; assumption) | (refine Fr.setRow ?_ _ (by first | exact Or.inr (by (first | omega | (simp; done) | (simp; omega))) | (exact Or.inl (by first | assumption | (simp; done)))))))), fun j u hj => Fr.cell (S := fun _ => False) (by (repeat (first | exact Fr.refl _ _ | assumption | apply Fr.drewN | apply Fr.alloc | (apply Fr.transF; assumption) | (refine Fr.setRow ?_ _ (by first | exact Or.inr (by (first | omega | (simp; done) | (simp; omega))) | (exact Or.inl (by first | assumption | (simp; done)))))))) (hcell j u hj) id, by first | omega | (simp; omega)⟩ ?_
        rintro w1 ⟨hx1, hb1, ho1, hcell, hl1⟩
        unfold OwnE at ho1
        have hlx : ∀ j u, (entC x)[j]? = some u → w1.cell? ((⟨b, o + k * 2, none⟩ : Addr).add j) = some u := fun j u hj => by rw [addr_add]; exact hcell j u hj
        refine go_load (v := .agg (entC x).toArray) rfl rfl (ld_cells (m := 2) rfl (by decide) hlx) ?_
        unfold entC
        repeat (first | refine sp ?_ | (refine is_load ?_; refine ld ?_) | (refine is_store ?_; refine sr ?_) | (refine is_alloc ?_; refine al ?_) | (refine is_box ?_; refine bx ?_) | (refine isl_load ?_; refine ldl ?_) | (refine isl_store ?_; refine srl ?_) | (refine isl_alloc ?_; refine all' ?_) | (refine isl_box ?_; refine bxl ?_) | refine dr Try.follows ?_)
        refine go_pushG (l := entC x) (by decide) rfl rfl rfl rfl ho1 rfl (by simp [Value.oneCell']) (by omega) (by simp [maxLen]; omega) (by omega) (by omega) ?_
        intro v2 w2 ho2' hg2 _
        have hx2 : Ext w w2 := ext_grown hx1 (by omega) ho1 hg2
        have hb2 := hb1.fr (Fr.of_grown hg2) (fun e => by have := (World.ownsRow.lt ho1 _ e).1; omega)
        have hsz2 := hg2.size
        have ho2 : OwnE w2 (w.heap.size + 1) v2 (a ++ [x]) := by unfold OwnE; rw [List.flatMap_append, List.length_append]; simpa using ho2'
        unfold OwnE at ho2
        obtain ⟨sv2, cv2, rfl, _, _⟩ := ho2.slice
        repeat (first | refine sp ?_ | (refine is_load ?_; refine ld ?_) | (refine is_store ?_; refine sr ?_) | (refine is_alloc ?_; refine al ?_) | (refine is_box ?_; refine bx ?_) | (refine isl_load ?_; refine ldl ?_) | (refine isl_store ?_; refine srl ?_) | (refine isl_alloc ?_; refine all' ?_) | (refine isl_box ?_; refine bxl ?_) | refine dr Try.follows ?_)
        refine go_stop (G := Nat × Bool × Value × List (Int × Int)) (k + 1, true, _, a ++ [x]) rfl ⟨rfl, rfl, trivial⟩ ⟨hlt, by (repeat (first | exact Fr.refl _ _ | assumption | apply Fr.drewN | apply Fr.alloc | (apply Fr.transF; assumption) | (refine Fr.setRow ?_ _ (by first | exact Or.inr (by (first | omega | (simp; done) | (simp; omega))) | (exact Or.inl (by first | assumption | (simp; done))))))), by (repeat (first | assumption | (refine At.new' (by (first | omega | (simp; done) | (simp; omega))) _ _) | apply At.alloc | apply At.drewN | apply At.setRow | (apply At.setRow_neF; first | assumption | (apply Ne.symm; assumption) | omega) | (apply At.extF; assumption))), Own.ext ho2 (by (repeat (first | exact Fr.refl _ _ | assumption | apply Fr.drewN | apply Fr.alloc | (apply Fr.transF; assumption) | (refine Fr.setRow ?_ _ (by first | exact Or.inr (by (first | omega | (simp; done) | (simp; omega))) | (exact Or.inl (by first | assumption | (simp; done)))))))), ?_, ?_, by first | omega | (simp; omega)⟩ (by show l.length - (k + 1) < l.length - k; omega)
        · rw [← heq]; simp [hne]
        · simp; omega
  · obtain rfl : k = l.length := by omega
    rw [List.drop_length] at heq
    unfold insGo at heq
    cases p with
    | true =>
      repeat (first | refine sp ?_ | (refine is_load ?_; refine ld ?_) | (refine is_store ?_; refine sr ?_) | (refine is_alloc ?_; refine al ?_) | (refine is_box ?_; refine bx ?_) | (refine isl_load ?_; refine ldl ?_) | (refine isl_store ?_; refine srl ?_) | (refine isl_alloc ?_; refine all' ?_) | (refine isl_box ?_; refine bxl ?_))
      refine go_ret1 rfl rfl ⟨_, rfl, ?_, hx1⟩
      rw [← heq, if_pos rfl, List.append_nil]
      exact OwnE.mono ho1 (by omega)
    | false =>
      repeat (first | refine sp ?_ | (refine is_load ?_; refine ld ?_) | (refine is_store ?_; refine sr ?_) | (refine is_alloc ?_; refine al ?_) | (refine is_box ?_; refine bx ?_) | (refine isl_load ?_; refine ldl ?_) | (refine isl_store ?_; refine srl ?_) | (refine isl_alloc ?_; refine all' ?_) | (refine isl_box ?_; refine bxl ?_))
      refine go_pushG (l := entC e) (by decide) rfl rfl rfl rfl ho1 rfl (by simp [Value.oneCell']) (by omega) (by simp [maxLen]; omega) (by omega) (by omega) ?_
      intro v2 w2 ho2' hg2 _
      have hx2 : Ext w w2 := ext_grown hx1 (by omega) ho1 hg2
      have hb2 := hb1.fr (Fr.of_grown hg2) (fun e => by have := (World.ownsRow.lt ho1 _ e).1; omega)
      have hsz2 := hg2.size
      have ho2 : OwnE w2 (w.heap.size + 1) v2 (a ++ [e]) := by unfold OwnE; rw [List.flatMap_append, List.length_append]; simpa using ho2'
      unfold OwnE at ho2
      obtain ⟨sv2, cv2, rfl, _, _⟩ := ho2.slice
      repeat (first | refine sp ?_ | (refine is_load ?_; refine ld ?_) | (refine is_store ?_; refine sr ?_) | (refine is_alloc ?_; refine al ?_) | (refine is_box ?_; refine bx ?_) | (refine isl_load ?_; refine ldl ?_) | (refine isl_store ?_; refine srl ?_) | (refine isl_alloc ?_; refine all' ?_) | (refine isl_box ?_; refine bxl ?_))
      refine go_ret1 rfl rfl ⟨_, rfl, ?_, hx2⟩
      rw [← heq, if_neg (by decide)]
      exact OwnE.mono ho2 (by omega)

/-- A valid list of entries. -/
structure OkL (l : List (Int × Int)) (m : Nat) : Prop where
  srt : Srt l
  ine : InE l
  len : l.length ≤ m

set_option maxHeartbeats 1000000 in
theorem c_List (w : World) (lv : Value) (l : List (Int × Int)) (most : Nat) (hr : RdU w w.heap.size lv entC l) (he : InE l) (hlen : l.length ≤ 9223372036854775807) (hm : most ≤ 5000) :
    Calls Try.prog 12 [lv, .int .i64 (most : Int)].toArray w (Ret fun v w' => ∃ a, RdU w' w'.heap.size v entC a ∧ OkL a most ∧ Ext w w') := by
  have hr0 := hr
  obtain ⟨sa, cap, rfl, hlc, _, _⟩ := hr0
  refine calls_go Try.func12 rfl Try.ntmps12 (Nat.le_of_ble_eq_true rfl) ?_
  repeat (first | refine sp ?_ | (refine is_load ?_; refine ld ?_) | (refine is_store ?_; refine sr ?_) | (refine is_alloc ?_; refine al ?_) | (refine is_box ?_; refine bx ?_) | (refine isl_load ?_; refine ldl ?_) | (refine isl_store ?_; refine srl ?_) | (refine isl_alloc ?_; refine all' ?_) | (refine isl_box ?_; refine bxl ?_) | refine dr Try.follows ?_)
  refine go_loop (G := Nat × Value × List (Int × Int)) [5, 6] (fun ⟨k, v, _⟩ => [v, .int .i64 (k : Int)]) [(0, .slice sa l.length cap), (1, .int .i64 (most : Int))]
    (fun ⟨k, v, a⟩ w' => k ≤ l.length ∧ k ≤ most ∧ Ext w w' ∧ RdU w' w'.heap.size v entC a ∧ OkL a k)
    (fun g => l.length - g.1) (0, .slice none 0 0, []) rfl ⟨rfl, rfl, trivial⟩ ⟨by omega, by omega, by (repeat (first | exact Fr.refl _ _ | assumption | apply Fr.drewN | apply Fr.alloc | (apply Fr.transF; assumption) | (refine Fr.setRow ?_ _ (by first | exact Or.inr (by (first | omega | (simp; done) | (simp; omega))) | (exact Or.inl (by first | assumption | (simp; done))))))), (Rd.nil w 0 entC).up, ⟨by simp [Srt], (by intro e he; cases he), by simp⟩⟩ ?_
  rintro ⟨k, v, a⟩ w1 ⟨hk, hkm, hx1, ha, hok⟩
  by_cases hlt : k < l.length
  · by_cases hlt2 : k < most
    · obtain ⟨b, o, es, hbl, hcell⟩ := (hr.ext hx1).at (m := 2) (fun _ => rfl) (by omega) hlt
      subst es
      have hex := he _ (List.getElem_mem hlt)
      generalize l[k] = x at *
      repeat (first | refine sp ?_ | (refine is_load ?_; refine ld ?_) | (refine is_store ?_; refine sr ?_) | (refine is_alloc ?_; refine al ?_) | (refine is_box ?_; refine bx ?_) | (refine isl_load ?_; refine ldl ?_) | (refine isl_store ?_; refine srl ?_) | (refine isl_alloc ?_; refine all' ?_) | (refine isl_box ?_; refine bxl ?_) | refine dr Try.follows ?_)
      refine go_load (v := .agg (entC x).toArray) rfl rfl (ld_cells (m := 2) rfl (by decide) fun j u hj => by rw [addr_add]; exact hcell j u hj) ?_
      have hal := hok.len
      refine go_call rfl rfl (c_Insert w1 w1.heap.size v a x ha (Nat.le_refl _) (by omega)) ?_
      rintro v2 w2 ⟨ho2, hx2⟩
      repeat (first | refine sp ?_ | (refine is_load ?_; refine ld ?_) | (refine is_store ?_; refine sr ?_) | (refine is_alloc ?_; refine al ?_) | (refine is_box ?_; refine bx ?_) | (refine isl_load ?_; refine ldl ?_) | (refine isl_store ?_; refine srl ?_) | (refine isl_alloc ?_; refine all' ?_) | (refine isl_box ?_; refine bxl ?_) | refine dr Try.follows ?_)
      refine go_stop (G := Nat × Value × List (Int × Int)) (k + 1, v2, ins a x) rfl ⟨rfl, rfl, trivial⟩ ⟨hlt, hlt2, hx1.trans hx2, ho2.rd.up, ⟨ins_srt hok.srt, fun y hy => ?_, ?_⟩⟩ (by show l.length - (k + 1) < l.length - k; omega)
      · rcases insGo_mem hy with rfl | hy
        · exact hex
        · exact hok.ine y hy
      · have := insGo_len (e := x) a false
        simp at this
        unfold ins; omega
    · repeat (first | refine sp ?_ | (refine is_load ?_; refine ld ?_) | (refine is_store ?_; refine sr ?_) | (refine is_alloc ?_; refine al ?_) | (refine is_box ?_; refine bx ?_) | (refine isl_load ?_; refine ldl ?_) | (refine isl_store ?_; refine srl ?_) | (refine isl_alloc ?_; refine all' ?_) | (refine isl_box ?_; refine bxl ?_) | refine dr Try.follows ?_)
      exact go_ret1 rfl rfl ⟨_, rfl, a, ha, ⟨hok.srt, hok.ine, by have := hok.len; omega⟩, hx1⟩
  · repeat (first | refine sp ?_ | (refine is_load ?_; refine ld ?_) | (refine is_store ?_; refine sr ?_) | (refine is_alloc ?_; refine al ?_) | (refine is_box ?_; refine bx ?_) | (refine isl_load ?_; refine ldl ?_) | (refine isl_store ?_; refine srl ?_) | (refine isl_alloc ?_; refine all' ?_) | (refine isl_box ?_; refine bxl ?_) | refine dr Try.follows ?_)
    exact go_ret1 rfl rfl ⟨_, rfl, a, ha, ⟨hok.srt, hok.ine, by have := hok.len; omega⟩, hx1⟩

/-- The height of a balanced tree is at most the greatest height for its size. -/
theorem Tr.ht_le {t : Tr} (h : t.bal) (hs : t.sz ≤ 2147483647) : (t.ht : Int) ≤ maxHeight t.sz := by
  obtain ⟨m, e, h1, h2, h3⟩ := maxHeight_spec (n := (t.sz : Int)) (by omega) (by omega)
  have h4 := Tr.wt_le h
  have : t.ht < m + 1 := wt_lt (by omega)
  omega

theorem c_Within (w : World) (lo p : Nat) (q : AP) (A : AR) (since : Nat) (most : Int) (ha : ArP w lo p q A) (h1 : since ≤ A.reads) (h2 : (A.reads : Int) ≤ since + most) (h3 : A.reads < 18446744073709551616) (h4 : 0 ≤ most ∧ most ≤ 9223372036854775807) :
    Calls Try.prog 20 [ptr p, .int .u64 (since : Int), .int .i64 most].toArray w (Ret fun v w' => v = .bool true ∧ w' = w) := by
  refine calls_go Try.func20 rfl Try.ntmps20 (Nat.le_of_ble_eq_true rfl) ?_
  repeat (first | refine sp ?_ | (refine is_load ?_; refine ld ?_) | (refine is_store ?_; refine sr ?_) | (refine is_alloc ?_; refine al ?_) | (refine is_box ?_; refine bx ?_) | (refine isl_load ?_; refine ldl ?_) | (refine isl_store ?_; refine srl ?_) | (refine isl_alloc ?_; refine all' ?_) | (refine isl_box ?_; refine bxl ?_) | refine dr Try.follows ?_)
  refine go_call rfl rfl (p_Reads _ lo p q A ha) ?_
  rintro _ w ⟨rfl, rfl⟩
  repeat (first | refine sp ?_ | (refine is_load ?_; refine ld ?_) | (refine is_store ?_; refine sr ?_) | (refine is_alloc ?_; refine al ?_) | (refine is_box ?_; refine bx ?_) | (refine isl_load ?_; refine ldl ?_) | (refine isl_store ?_; refine srl ?_) | (refine isl_alloc ?_; refine all' ?_) | (refine isl_box ?_; refine bxl ?_) | refine dr Try.follows ?_)
  refine go_call rfl rfl (p_Reads _ lo p q A ha) ?_
  rintro _ w ⟨rfl, rfl⟩
  repeat (first | refine sp ?_ | (refine is_load ?_; refine ld ?_) | (refine is_store ?_; refine sr ?_) | (refine is_alloc ?_; refine al ?_) | (refine is_box ?_; refine bx ?_) | (refine isl_load ?_; refine ldl ?_) | (refine isl_store ?_; refine srl ?_) | (refine isl_alloc ?_; refine all' ?_) | (refine isl_box ?_; refine bxl ?_) | refine dr Try.follows ?_)
  exact go_ret1 rfl rfl ⟨_, rfl, rfl, rfl⟩

end Go.Proofs.Yteghhalnpdikoaa
