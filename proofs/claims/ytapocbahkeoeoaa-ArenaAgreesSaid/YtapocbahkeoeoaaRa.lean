/-
  The reference arena: where it lies; a new one; its dump.
-/
import Derived.Test.YtapocbahkeoeoaaL5g
set_option linter.unusedVariables false
namespace Go.Proofs.Ytapocbahkeoeoaa
open Go.Vc

structure RV where
  nb : Nat
  cb : Nat
  sv : Value
  gv : Value
  ov : Value
abbrev boolC (b : Bool) : List Value := [.bool b]
def rsC (A : AR) (V : RV) : List Value := [.int .i64 (A.cap : Int), V.sv, .int .i64 ((A.fresh + 1 : Nat) : Int), V.gv, V.ov]
def rfC (A : AR) (V : RV) : List Value := [.int .i64 (A.cap : Int), V.sv, .int .i64 ((A.fresh + 1 : Nat) : Int), V.gv, V.ov, .slice (some ⟨V.nb, 0, none⟩) A.cap A.cap, .slice (some ⟨V.cb, 0, none⟩) A.cap A.cap, .int .u64 (A.reads : Int)]
def AR.gens (A : AR) : List Nat := (List.range A.cap).map fun j => A.gen (j + 1)
def AR.ons (A : AR) : List Bool := (List.range A.cap).map fun j => A.used (j + 1)
structure RfAt (w : World) (lo r : Nat) (V : RV) (A : AR) : Prop where
  hr : At w r (rfC A V) 85
  hn : At w V.nb (cellsF (fun j => (A.node (j + 1)).cells) A.cap) 50
  hc : At w V.cb (cellsF (fun j => [.int .i64 (A.cnt (j + 1))]) A.cap) 3
  hs : Rd w lo V.sv u32c A.rel
  hg : Rd w lo V.gv u32c A.gens
  ho : Rd w lo V.ov boolC A.ons
  los : lo ≤ r ∧ lo ≤ V.nb ∧ lo ≤ V.cb
  ap : ∀ b, (V.sv.ownBlock = some b ∨ V.gv.ownBlock = some b ∨ V.ov.ownBlock = some b) → b ≠ r ∧ b ≠ V.nb ∧ b ≠ V.cb
  bl : ∀ b, (V.sv.ownBlock = some b ∨ V.gv.ownBlock = some b ∨ V.ov.ownBlock = some b) → b < w.heap.size
  wf : Wf A
theorem RfAt.ext {w w' : World} {lo r : Nat} {V : RV} {A : AR} (h : RfAt w lo r V A) (f : Ext w w') : RfAt w' lo r V A :=
  ⟨h.hr.ext f, h.hn.ext f, h.hc.ext f, h.hs.ext f, h.hg.ext f, h.ho.ext f, h.los, h.ap, fun b hb => Nat.lt_of_lt_of_le (h.bl b hb) f.size, h.wf⟩
theorem gens_get (A : AR) {j : Nat} (hj : j < A.cap) : A.gens[j]'(by simp [AR.gens, hj]) = A.gen (j + 1) := by simp [AR.gens]
theorem ons_get (A : AR) {j : Nat} (hj : j < A.cap) : A.ons[j]'(by simp [AR.ons, hj]) = A.used (j + 1) := by simp [AR.ons]
theorem gens_len (A : AR) : A.gens.length = A.cap := by simp [AR.gens]
theorem ons_len (A : AR) : A.ons.length = A.cap := by simp [AR.ons]

set_option maxHeartbeats 1000000 in
theorem c_rfOrder (w : World) (lo : Nat) (V : RV) (A : AR) (hs : Rd w lo V.sv u32c A.rel) (hwf : Wf A) :
    Calls Try.prog 56 [.agg ⟨rsC A V⟩].toArray w (Ret fun r w' => OwnN w' w.heap.size r A.order ∧ Ext w w') := by
  have hcap := hwf.capM
  have hfr := hwf.fr
  have hrl := rel_le hwf
  obtain ⟨nb, cb, sv, gv, ov⟩ := V
  obtain ⟨sa, ca, rfl, hca, hrr, _⟩ := hs
  unfold rsC
  simp only []
  refine calls_go Try.func56 rfl Try.ntmps56 (Nat.le_of_ble_eq_true rfl) ?_
  repeat (first | refine sp ?_ | (refine is_load ?_; refine ld ?_) | (refine is_store ?_; refine sr ?_) | (refine is_alloc ?_; refine al ?_) | (refine is_box ?_; refine bx ?_) | (refine isl_load ?_; refine ldl ?_) | (refine isl_store ?_; refine srl ?_) | (refine isl_alloc ?_; refine all' ?_) | (refine isl_box ?_; refine bxl ?_))
  refine go_name (F := fun w1 => At w1 w.heap.size [.int .i64 (A.cap : Int), .slice sa A.rel.length ca, .int .i64 ((A.fresh + 1 : Nat) : Int), gv, ov] 82 ∧ Ext w w1 ∧ w.heap.size + 1 ≤ w1.heap.size) ⟨by (repeat (first | assumption | (refine At.new' (by (first | omega | (simp; done) | (simp; omega))) _ _) | apply At.alloc | apply At.drewN | apply At.setRow | (apply At.setRow_neF; first | assumption | (apply Ne.symm; assumption) | omega) | (apply At.extF; assumption))), by (repeat (first | exact Fr.refl _ _ | assumption | apply Fr.drewN | apply Fr.alloc | (apply Fr.transF; assumption) | (refine Fr.setRow ?_ _ (by first | exact Or.inr (by (first | omega | (simp; done) | (simp; omega))) | (exact Or.inl (by first | assumption | (simp; done))))))), by simp⟩ ?_
  rintro w1 ⟨hb1, hx1, hz1⟩
  refine go_loop (G := Nat × Value) [4, 3] (fun g => [.int .i64 ((g.1 : Int) - 1), g.2]) [(1, ptr w.heap.size)]
    (fun g w' => g.1 ≤ A.rel.length ∧ OwnN w' (w.heap.size + 1) g.2 (A.rel.drop g.1).reverse ∧ At w' w.heap.size [.int .i64 (A.cap : Int), .slice sa A.rel.length ca, .int .i64 ((A.fresh + 1 : Nat) : Int), gv, ov] 82 ∧ Ext w w' ∧ w.heap.size + 1 ≤ w'.heap.size) (fun g => g.1)
    (A.rel.length, .slice none 0 0) rfl ⟨rfl, trivial⟩ ⟨Nat.le_refl _, by simpa [OwnN] using Own.nil _ _ _ _, hb1, hx1, hz1⟩ ?_
  rintro ⟨j, v1⟩ w3 ⟨hj, ho1, hb3, hx3, hz3⟩
  simp only at hj ho1
  cases j with
  | succ j =>
    have hlt : j < A.rel.length := by omega
    obtain ⟨b, o, rfl, hcell⟩ := (hrr.ext hx3) j (.int .u32 ((A.rel[j] : Nat) : Int)) (by rw [show A.rel.flatMap u32c = A.rel.map (fun i : Nat => Value.int .u32 (i : Int)) from flatMap_one _ _]; simp [hlt])
    have hdrop : (A.rel.drop j).reverse = (A.rel.drop (j+1)).reverse ++ [A.rel[j]] := by
      rw [List.drop_eq_getElem_cons hlt, List.reverse_cons]
    repeat (first | refine sp ?_ | (refine is_load ?_; refine ld ?_) | (refine is_store ?_; refine sr ?_) | (refine is_alloc ?_; refine al ?_) | (refine is_box ?_; refine bx ?_) | (refine isl_load ?_; refine ldl ?_) | (refine isl_store ?_; refine srl ?_) | (refine isl_alloc ?_; refine all' ?_) | (refine isl_box ?_; refine bxl ?_))
    refine go_as 17 (u' := .int .i64 (j : Int)) rfl (by congr 1; omega) ?_
    repeat (first | refine sp ?_ | (refine is_load ?_; refine ld ?_) | (refine is_store ?_; refine sr ?_) | (refine is_alloc ?_; refine al ?_) | (refine is_box ?_; refine bx ?_) | (refine isl_load ?_; refine ldl ?_) | (refine isl_store ?_; refine srl ?_) | (refine isl_alloc ?_; refine all' ?_) | (refine isl_box ?_; refine bxl ?_))
    refine go_pushG (by decide) rfl rfl rfl rfl ho1 rfl (one_u32 _) (by omega) (by simp [maxLen]; omega) (by simp; omega) hz3 ?_
    intro v2 w4 ho2 hg2 _
    have hb4 := hb3.fr (Fr.of_grown hg2) (fun e => by have := (World.ownsRow.lt ho1 _ e).1; omega)
    have hx4 := ext_pushed hx3 (by omega) ho1 hg2
    have hz4 := hg2.size
    repeat (first | refine sp ?_ | (refine is_load ?_; refine ld ?_) | (refine is_store ?_; refine sr ?_) | (refine is_alloc ?_; refine al ?_) | (refine is_box ?_; refine bx ?_) | (refine isl_load ?_; refine ldl ?_) | (refine isl_store ?_; refine srl ?_) | (refine isl_alloc ?_; refine all' ?_) | (refine isl_box ?_; refine bxl ?_))
    refine go_as 4 (u' := .int .i64 ((j : Int) - 1)) rfl (by congr 1; omega) ?_
    refine go_stop (G := Nat × Value) (j, v2) rfl ⟨rfl, trivial⟩ ⟨by dsimp only; omega, ?_, hb4, hx4, by omega⟩ (by show j < j + 1; omega)
    dsimp only
    rw [hdrop]
    unfold OwnN
    rw [List.map_append, List.length_append]
    exact ho2
  | zero =>
    rw [List.drop_zero] at ho1
    repeat (first | refine sp ?_ | (refine is_load ?_; refine ld ?_) | (refine is_store ?_; refine sr ?_) | (refine is_alloc ?_; refine al ?_) | (refine is_box ?_; refine bx ?_) | (refine isl_load ?_; refine ldl ?_) | (refine isl_store ?_; refine srl ?_) | (refine isl_alloc ?_; refine all' ?_) | (refine isl_box ?_; refine bxl ?_))
    refine go_loop (G := Nat × Value) [5, 3] (fun g => [.int .i64 ((A.fresh + 1 + g.1 : Nat) : Int), g.2]) [(1, ptr w.heap.size)]
      (fun g w' => g.1 ≤ A.cap - A.fresh ∧ OwnN w' (w.heap.size + 1) g.2 (A.rel.reverse ++ List.range' (A.fresh + 1) g.1) ∧ At w' w.heap.size [.int .i64 (A.cap : Int), .slice sa A.rel.length ca, .int .i64 ((A.fresh + 1 : Nat) : Int), gv, ov] 82 ∧ Ext w w' ∧ w.heap.size + 1 ≤ w'.heap.size) (fun g => A.cap - A.fresh - g.1)
      (0, v1) rfl ⟨rfl, trivial⟩ ⟨Nat.zero_le _, by simpa using ho1, hb3, hx3, hz3⟩ ?_
    rintro ⟨j, v2⟩ w4 ⟨hj, ho2, hb4, hx4, hz4⟩
    simp only at hj ho2
    by_cases hlt : j < A.cap - A.fresh
    · repeat (first | refine sp ?_ | (refine is_load ?_; refine ld ?_) | (refine is_store ?_; refine sr ?_) | (refine is_alloc ?_; refine al ?_) | (refine is_box ?_; refine bx ?_) | (refine isl_load ?_; refine ldl ?_) | (refine isl_store ?_; refine srl ?_) | (refine isl_alloc ?_; refine all' ?_) | (refine isl_box ?_; refine bxl ?_))
      refine go_pushG (by decide) rfl rfl rfl rfl ho2 rfl (one_u32 _) (by omega) (by simp [maxLen]; omega) (by simp; omega) hz4 ?_
      intro v3 w6 ho3 hg3 _
      have hb6 := hb4.fr (Fr.of_grown hg3) (fun e => by have := (World.ownsRow.lt ho2 _ e).1; omega)
      have hx6 := ext_pushed hx4 (by omega) ho2 hg3
      have hz6 := hg3.size
      repeat (first | refine sp ?_ | (refine is_load ?_; refine ld ?_) | (refine is_store ?_; refine sr ?_) | (refine is_alloc ?_; refine al ?_) | (refine is_box ?_; refine bx ?_) | (refine isl_load ?_; refine ldl ?_) | (refine isl_store ?_; refine srl ?_) | (refine isl_alloc ?_; refine all' ?_) | (refine isl_box ?_; refine bxl ?_))
      refine go_as 5 (u' := .int .i64 ((A.fresh + 1 + (j + 1) : Nat) : Int)) rfl (by congr 1) ?_
      refine go_stop (G := Nat × Value) (j + 1, v3) rfl ⟨rfl, trivial⟩ ⟨by dsimp only; omega, ?_, hb6, hx6, by omega⟩ (by show A.cap - A.fresh - (j + 1) < A.cap - A.fresh - j; omega)
      dsimp only
      rw [List.range'_1_concat, ← List.append_assoc]
      unfold OwnN
      rw [List.map_append, List.length_append]
      exact ho3
    · obtain rfl : j = A.cap - A.fresh := by omega
      repeat (first | refine sp ?_ | (refine is_load ?_; refine ld ?_) | (refine is_store ?_; refine sr ?_) | (refine is_alloc ?_; refine al ?_) | (refine is_box ?_; refine bx ?_) | (refine isl_load ?_; refine ldl ?_) | (refine isl_store ?_; refine srl ?_) | (refine isl_alloc ?_; refine all' ?_) | (refine isl_box ?_; refine bxl ?_))
      exact go_ret1 rfl rfl ⟨_, rfl, ho2.mono (by omega), hx4⟩

theorem c_rs3New (w : World) (n : Nat) (h1 : 1 ≤ n) (h2 : n ≤ 65536) :
    Calls Try.prog 74 [.int .i64 (n : Int)].toArray w (Ret fun r w' => ∃ gb ob, r = .agg ⟨[.int .i64 (n : Int), .slice none 0 0, .int .i64 1, .slice (some ⟨gb, 0, none⟩) n n, .slice (some ⟨ob, 0, none⟩) n n]⟩ ∧ At w' gb (cellsF (fun _ => [.int .u32 0]) n) 27 ∧ At w' ob (cellsF (fun _ => [.bool false]) n) 4 ∧ w.heap.size ≤ gb ∧ w.heap.size ≤ ob ∧ Ext w w') := by
  refine calls_go Try.func74 rfl Try.ntmps74 (Nat.le_of_ble_eq_true rfl) ?_
  repeat (first | refine sp ?_ | (refine is_load ?_; refine ld ?_) | (refine is_store ?_; refine sr ?_) | (refine is_alloc ?_; refine al ?_) | (refine is_box ?_; refine bx ?_) | (refine isl_load ?_; refine ldl ?_) | (refine isl_store ?_; refine srl ?_) | (refine isl_alloc ?_; refine all' ?_) | (refine isl_box ?_; refine bxl ?_))
  refine go_name (F := fun w1 => At w1 w.heap.size [.int .i64 0, .slice none 0 0, .int .i64 0, .slice none 0 0, .slice none 0 0] 82 ∧ Ext w w1 ∧ w1.heap.size = w.heap.size + 1) ⟨by (repeat (first | assumption | (refine At.new' (by (first | omega | (simp; done) | (simp; omega))) _ _) | apply At.alloc | apply At.drewN | apply At.setRow | (apply At.setRow_neF; first | assumption | (apply Ne.symm; assumption) | omega) | (apply At.extF; assumption))), by (repeat (first | exact Fr.refl _ _ | assumption | apply Fr.drewN | apply Fr.alloc | (apply Fr.transF; assumption) | (refine Fr.setRow ?_ _ (by first | exact Or.inr (by (first | omega | (simp; done) | (simp; omega))) | (exact Or.inl (by first | assumption | (simp; done))))))), by simp⟩ ?_
  rintro w1 ⟨hb1, hx1, hz1⟩
  refine go_sched (fun _ => True) (.op 0 (.op 1 (.op 3 (.alt 2 (.op 4 (.op 5 (.op 6 (.fin)))) (.op 4 (.op 2 (.op 5 (.op 6 (.fin))))))))) Try.follows (by kernel_rfl) (by kernel_rfl) (by kernel_rfl) trivial ?_
  have hnb : (w1.drewN 1).heap.size = w1.heap.size := rfl
  repeat (first | refine sp ?_ | (refine is_load ?_; refine ld ?_) | (refine is_store ?_; refine sr ?_) | (refine is_alloc ?_; refine al ?_) | (refine is_box ?_; refine bx ?_) | (refine isl_load ?_; refine ldl ?_) | (refine isl_store ?_; refine srl ?_) | (refine isl_alloc ?_; refine all' ?_) | (refine isl_box ?_; refine bxl ?_))
  refine go_alt rfl ?_ ?_
  · repeat (first | refine sp ?_ | (refine is_load ?_; refine ld ?_) | (refine is_store ?_; refine sr ?_) | (refine is_alloc ?_; refine al ?_) | (refine is_box ?_; refine bx ?_) | (refine isl_load ?_; refine ldl ?_) | (refine isl_store ?_; refine srl ?_) | (refine isl_alloc ?_; refine all' ?_) | (refine isl_box ?_; refine bxl ?_))
    refine gol_makeF (c := n) (nb := w1.heap.size) rfl rfl rfl rfl rfl (by omega) (by unfold maxLen; omega) rfl trivial ?_
    repeat (first | refine sp ?_ | (refine is_load ?_; refine ld ?_) | (refine is_store ?_; refine sr ?_) | (refine is_alloc ?_; refine al ?_) | (refine is_box ?_; refine bx ?_) | (refine isl_load ?_; refine ldl ?_) | (refine isl_store ?_; refine srl ?_) | (refine isl_alloc ?_; refine all' ?_) | (refine isl_box ?_; refine bxl ?_))
    refine gol_makeF (c := n) (nb := w1.heap.size + 1) rfl rfl rfl rfl rfl (by omega) (by unfold maxLen; omega) (by simp) trivial ?_
    repeat (first | refine sp ?_ | (refine is_load ?_; refine ld ?_) | (refine is_store ?_; refine sr ?_) | (refine is_alloc ?_; refine al ?_) | (refine is_box ?_; refine bx ?_) | (refine isl_load ?_; refine ldl ?_) | (refine isl_store ?_; refine srl ?_) | (refine isl_alloc ?_; refine all' ?_) | (refine isl_box ?_; refine bxl ?_))
    exact go_ret1 rfl ⟨_, rfl, Ld.run (ld_part (by (repeat (first | assumption | (refine At.new' (by (first | omega | (simp; done) | (simp; omega))) _ _) | apply At.alloc | apply At.drewN | apply At.setRow | (apply At.setRow_neF; first | assumption | (apply Ne.symm; assumption) | omega) | (apply At.extF; assumption)))) rfl rfl)⟩ ⟨_, rfl, _, _, rfl, by (repeat (first | assumption | (refine At.new' (by (first | omega | (simp; done) | (simp; omega))) _ _) | apply At.alloc | apply At.drewN | apply At.setRow | (apply At.setRow_neF; first | assumption | (apply Ne.symm; assumption) | omega) | (apply At.extF; assumption))), by (repeat (first | assumption | (refine At.new' (by (first | omega | (simp; done) | (simp; omega))) _ _) | apply At.alloc | apply At.drewN | apply At.setRow | (apply At.setRow_neF; first | assumption | (apply Ne.symm; assumption) | omega) | (apply At.extF; assumption))), by omega, by omega, by (repeat (first | exact Fr.refl _ _ | assumption | apply Fr.drewN | apply Fr.alloc | (apply Fr.transF; assumption) | (refine Fr.setRow ?_ _ (by first | exact Or.inr (by (first | omega | (simp; done) | (simp; omega))) | (exact Or.inl (by first | assumption | (simp; done)))))))⟩
  · repeat (first | refine sp ?_ | (refine is_load ?_; refine ld ?_) | (refine is_store ?_; refine sr ?_) | (refine is_alloc ?_; refine al ?_) | (refine is_box ?_; refine bx ?_) | (refine isl_load ?_; refine ldl ?_) | (refine isl_store ?_; refine srl ?_) | (refine isl_alloc ?_; refine all' ?_) | (refine isl_box ?_; refine bxl ?_))
    refine gol_makeF (c := n) (nb := w1.heap.size) rfl rfl rfl rfl rfl (by omega) (by unfold maxLen; omega) rfl trivial ?_
    repeat (first | refine sp ?_ | (refine is_load ?_; refine ld ?_) | (refine is_store ?_; refine sr ?_) | (refine is_alloc ?_; refine al ?_) | (refine is_box ?_; refine bx ?_) | (refine isl_load ?_; refine ldl ?_) | (refine isl_store ?_; refine srl ?_) | (refine isl_alloc ?_; refine all' ?_) | (refine isl_box ?_; refine bxl ?_))
    refine gol_makeF (c := n) (nb := w1.heap.size + 1) rfl rfl rfl rfl rfl (by omega) (by unfold maxLen; omega) (by simp) trivial ?_
    repeat (first | refine sp ?_ | (refine is_load ?_; refine ld ?_) | (refine is_store ?_; refine sr ?_) | (refine is_alloc ?_; refine al ?_) | (refine is_box ?_; refine bx ?_) | (refine isl_load ?_; refine ldl ?_) | (refine isl_store ?_; refine srl ?_) | (refine isl_alloc ?_; refine all' ?_) | (refine isl_box ?_; refine bxl ?_))
    exact go_ret1 rfl ⟨_, rfl, Ld.run (ld_part (by (repeat (first | assumption | (refine At.new' (by (first | omega | (simp; done) | (simp; omega))) _ _) | apply At.alloc | apply At.drewN | apply At.setRow | (apply At.setRow_neF; first | assumption | (apply Ne.symm; assumption) | omega) | (apply At.extF; assumption)))) rfl rfl)⟩ ⟨_, rfl, _, _, rfl, by (repeat (first | assumption | (refine At.new' (by (first | omega | (simp; done) | (simp; omega))) _ _) | apply At.alloc | apply At.drewN | apply At.setRow | (apply At.setRow_neF; first | assumption | (apply Ne.symm; assumption) | omega) | (apply At.extF; assumption))), by (repeat (first | assumption | (refine At.new' (by (first | omega | (simp; done) | (simp; omega))) _ _) | apply At.alloc | apply At.drewN | apply At.setRow | (apply At.setRow_neF; first | assumption | (apply Ne.symm; assumption) | omega) | (apply At.extF; assumption))), by omega, by omega, by (repeat (first | exact Fr.refl _ _ | assumption | apply Fr.drewN | apply Fr.alloc | (apply Fr.transF; assumption) | (refine Fr.setRow ?_ _ (by first | exact Or.inr (by (first | omega | (simp; done) | (simp; omega))) | (exact Or.inl (by first | assumption | (simp; done)))))))⟩

set_option maxHeartbeats 2000000 in
theorem c_rfNewL (w : World) (n : Nat) (h1 : 1 ≤ n) (h2 : n ≤ 65536) :
    Calls Try.prog 37 [.int .i64 (n : Int)].toArray w (Ret fun r w' => ∃ b V, r = ptr b ∧ RfAt w' w.heap.size b V (AR.new n) ∧ Ext w w' ∧ ∀ b, (V.sv.ownBlock = some b ∨ V.gv.ownBlock = some b ∨ V.ov.ownBlock = some b) → w.heap.size ≤ b) := by
  refine calls_go Try.func37 rfl Try.ntmps37 (Nat.le_of_ble_eq_true rfl) ?_
  repeat (first | refine sp ?_ | (refine is_load ?_; refine ld ?_) | (refine is_store ?_; refine sr ?_) | (refine is_alloc ?_; refine al ?_) | (refine is_box ?_; refine bx ?_) | (refine isl_load ?_; refine ldl ?_) | (refine isl_store ?_; refine srl ?_) | (refine isl_alloc ?_; refine all' ?_) | (refine isl_box ?_; refine bxl ?_))
  refine go_cut (G := Nat × Nat × Nat × Nat × Nat) [2] (fun g => [ptr g.1]) []
    (fun ⟨r, nb, cb, gb, ob⟩ w' => At w' r [.int .i64 (n : Int), .slice none 0 0, .int .i64 1, .slice (some ⟨gb, 0, none⟩) n n, .slice (some ⟨ob, 0, none⟩) n n, .slice (some ⟨nb, 0, none⟩) n n, .slice (some ⟨cb, 0, none⟩) n n, .int .u64 0] 85 ∧ At w' gb (cellsF (fun _ => [.int .u32 0]) n) 27 ∧ At w' ob (cellsF (fun _ => [.bool false]) n) 4 ∧ At w' nb (cellsF (fun _ => Nd.zero.cells) n) 50 ∧ At w' cb (cellsF (fun _ => [.int .i64 0]) n) 3 ∧ w.heap.size ≤ r ∧ w.heap.size ≤ nb ∧ w.heap.size ≤ cb ∧ w.heap.size ≤ gb ∧ w.heap.size ≤ ob ∧ Ext w w') ?_ ?_
  · refine go_sched (Fr (fun _ => False) w) (.op 0 (.op 2 (.op 4 (.alt 1 (.alt 3 (.op 5 (.op 6 (.op 7 (.op 8 (.fin))))) (.op 5 (.op 3 (.op 6 (.op 7 (.op 8 (.fin))))))) (.alt 3 (.alt 1 (.op 5 (.op 6 (.op 7 (.op 8 (.fin))))) (.op 5 (.op 1 (.op 6 (.op 7 (.op 8 (.fin))))))) (.op 5 (.alt 1 (.op 3 (.op 6 (.op 7 (.op 8 (.fin))))) (.op 3 (.op 1 (.op 6 (.op 7 (.op 8 (.fin))))))))))))) Try.follows (by kernel_rfl) (by kernel_rfl) (by kernel_rfl) ((Fr.refl _ _).drewN 1) ?_
    repeat' (first
      | refine go_alt rfl ?_ ?_
      | refine sp ?_
      | (refine isl_box ?_; refine bxl ?_)
      | (refine gol_makeF (c := n) (nb := _) rfl rfl rfl rfl rfl (by omega) (by unfold maxLen; omega) (by first | (simp; rfl) | rfl) (by show Fr _ _ _; (repeat (first | exact Fr.refl _ _ | assumption | apply Fr.drewN | apply Fr.alloc | (apply Fr.transF; assumption) | (refine Fr.setRow ?_ _ (by first | exact Or.inr (by (first | omega | (simp; done) | (simp; omega))) | (exact Or.inl (by first | assumption | (simp; done)))))))) ?_)
      | (refine gol_call rfl rfl (c_rs3New _ n h1 h2) ?_; rintro _ w1 ⟨gb, ob, rfl, hg1, ho1, lg, lo1, hx1⟩; have hs1 := hx1.size; have hgl := hg1.lt; have hol := ho1.lt; simp at hs1 lg lo1; refine ⟨by show Fr _ _ _; (repeat (first | exact Fr.refl _ _ | assumption | apply Fr.drewN | apply Fr.alloc | (apply Fr.transF; assumption) | (refine Fr.setRow ?_ _ (by first | exact Or.inr (by (first | omega | (simp; done) | (simp; omega))) | (exact Or.inl (by first | assumption | (simp; done))))))), ?_⟩))
    all_goals (refine go_stop (G := Nat × Nat × Nat × Nat × Nat) (_, _, _, _, _) rfl trivial ⟨by (repeat (first | assumption | (refine At.new' (by (first | omega | (simp; done) | (simp; omega))) _ _) | apply At.alloc | apply At.drewN | apply At.setRow | (apply At.setRow_neF; first | assumption | (apply Ne.symm; assumption) | omega) | (apply At.extF; assumption))), by (repeat (first | assumption | (refine At.new' (by (first | omega | (simp; done) | (simp; omega))) _ _) | apply At.alloc | apply At.drewN | apply At.setRow | (apply At.setRow_neF; first | assumption | (apply Ne.symm; assumption) | omega) | (apply At.extF; assumption))), by (repeat (first | assumption | (refine At.new' (by (first | omega | (simp; done) | (simp; omega))) _ _) | apply At.alloc | apply At.drewN | apply At.setRow | (apply At.setRow_neF; first | assumption | (apply Ne.symm; assumption) | omega) | (apply At.extF; assumption))), ?_, ?_, ?_, ?_, ?_, ?_, ?_, ?_⟩ trivial)
    all_goals first
      | omega
      | (simp; done)
      | (simp; omega)
      | (show Ext _ _; (repeat (first | exact Fr.refl _ _ | assumption | apply Fr.drewN | apply Fr.alloc | (apply Fr.transF; assumption) | (refine Fr.setRow ?_ _ (by first | exact Or.inr (by (first | omega | (simp; done) | (simp; omega))) | (exact Or.inl (by first | assumption | (simp; done))))))))
      | (repeat (first | assumption | (refine At.new' (by (first | omega | (simp; done) | (simp; omega))) _ _) | apply At.alloc | apply At.drewN | apply At.setRow | (apply At.setRow_neF; first | assumption | (apply Ne.symm; assumption) | omega) | (apply At.extF; assumption)))
  · rintro ⟨r, nb, cb, gb, ob⟩ w1 ⟨hr, hg, ho, hn, hc, l1, l2, l3, l4, l5, hx⟩
    repeat (first | refine sp ?_ | (refine is_load ?_; refine ld ?_) | (refine is_store ?_; refine sr ?_) | (refine is_alloc ?_; refine al ?_) | (refine is_box ?_; refine bx ?_) | (refine isl_load ?_; refine ldl ?_) | (refine isl_store ?_; refine srl ?_) | (refine isl_alloc ?_; refine all' ?_) | (refine isl_box ?_; refine bxl ?_))
    refine go_ret1 rfl rfl ⟨_, rfl, r, ⟨nb, cb, .slice none 0 0, .slice (some ⟨gb, 0, none⟩) n n, .slice (some ⟨ob, 0, none⟩) n n⟩, rfl, ⟨hr, hn, hc, Rd.nil _ _ _, ?_, ?_, ⟨l1, l2, l3⟩, ?_, ?_, Wf.new h1 h2⟩, hx, ?_⟩
    · refine At.rd (T := 27) (enc := u32c) (xs := (AR.new n).gens) ?_ (by simp [AR.gens, AR.new]) l4
      have e : (AR.new n).gens.flatMap u32c = cellsF (fun _ => [.int .u32 0]) n := by unfold AR.gens cellsF; rw [List.flatMap_map]; rfl
      rw [e]; exact hg
    · refine At.rd (T := 4) (enc := boolC) (xs := (AR.new n).ons) ?_ (by simp [AR.ons, AR.new]) l5
      have e : (AR.new n).ons.flatMap boolC = cellsF (fun _ => [.bool false]) n := by unfold AR.ons cellsF; rw [List.flatMap_map]; rfl
      rw [e]; exact ho
    · rintro b (e | e | e)
      · cases e
      · obtain rfl : gb = b := by simpa [Value.ownBlock] using e
        exact ⟨hg.ne hr (by decide), hg.ne hn (by decide), hg.ne hc (by decide)⟩
      · obtain rfl : ob = b := by simpa [Value.ownBlock] using e
        exact ⟨ho.ne hr (by decide), ho.ne hn (by decide), ho.ne hc (by decide)⟩
    · rintro b (e | e | e)
      · cases e
      · obtain rfl : gb = b := by simpa [Value.ownBlock] using e
        exact hg.lt
      · obtain rfl : ob = b := by simpa [Value.ownBlock] using e
        exact ho.lt
    · rintro b (e | e | e)
      · cases e
      · obtain rfl : gb = b := by simpa [Value.ownBlock] using e
        exact l4
      · obtain rfl : ob = b := by simpa [Value.ownBlock] using e
        exact l5
theorem c_rfNew (w : World) (n : Nat) (h1 : 1 ≤ n) (h2 : n ≤ 65536) :
    Calls Try.prog 37 [.int .i64 (n : Int)].toArray w (Ret fun r w' => ∃ b V, r = ptr b ∧ RfAt w' w.heap.size b V (AR.new n) ∧ Ext w w') := by
  refine (c_rfNewL w n h1 h2).mono ?_
  rintro _ w' ⟨x, rfl, b, V, rfl, h, hx, _⟩
  exact ⟨_, rfl, b, V, rfl, h, hx⟩

theorem RfAt.onAt {w : World} {lo r : Nat} {V : RV} {A : AR} (h : RfAt w lo r V A) {k : Nat} (hk : k < A.cap) : ∃ b o c, V.ov = .slice (some ⟨b, o, none⟩) A.cap c ∧ A.cap ≤ c ∧ w.cell? ⟨b, o + k, none⟩ = some (.bool (A.used (k + 1))) := by
  obtain ⟨sa, c, e, hc, hr, _⟩ := h.ho
  rw [ons_len] at e hc
  obtain ⟨b, o, rfl, hcell⟩ := hr.at (m := 1) (fun _ => rfl) (by omega) (i := k) (by rw [ons_len]; exact hk)
  have := hcell 0 (.bool (A.ons[k]'(by rw [ons_len]; exact hk))) rfl
  rw [ons_get A hk] at this
  exact ⟨b, o, c, e, hc, by simpa using this⟩
theorem RfAt.genAt {w : World} {lo r : Nat} {V : RV} {A : AR} (h : RfAt w lo r V A) {k : Nat} (hk : k < A.cap) : ∃ b o c, V.gv = .slice (some ⟨b, o, none⟩) A.cap c ∧ A.cap ≤ c ∧ w.cell? ⟨b, o + k, none⟩ = some (.int .u32 (A.gen (k + 1) : Int)) := by
  obtain ⟨sa, c, e, hc, hr, _⟩ := h.hg
  rw [gens_len] at e hc
  obtain ⟨b, o, rfl, hcell⟩ := hr.at (m := 1) (fun _ => rfl) (by omega) (i := k) (by rw [gens_len]; exact hk)
  have := hcell 0 (.int .u32 ((A.gens[k]'(by rw [gens_len]; exact hk) : Nat) : Int)) rfl
  rw [gens_get A hk] at this
  exact ⟨b, o, c, e, hc, by simpa using this⟩

def OwnS (w : World) (lo : Nat) (v : Value) (l : List Slt) : Prop := Own w lo 52 11 v l.length (l.flatMap Slt.cells)
theorem OwnS.nec {w : World} {lo b : Nat} {v : Value} {l : List Slt} {C : List Value} {T : TypeId} (h : OwnS w lo v l) (hb : At w b C T) (hT : T ≠ 52) : v.ownBlock ≠ some b := by
  intro e
  obtain ⟨_, C', hat⟩ := Own.block_lt h e
  exact hb.ne hat hT rfl

set_option maxHeartbeats 4000000 in
theorem c_rfDump (w : World) (lo r : Nat) (V : RV) (A : AR) (h : RfAt w lo r V A) (hz : ∀ i, 1 ≤ i → i ≤ A.cap → A.countOf i = A.cnt i) :
    Calls Try.prog 38 [ptr r].toArray w (Ret fun x w' => DpAt w' w.heap.size x A.dump ∧ Ext w w') := by
  have hcap := h.wf.capM
  have hr := h.hr
  unfold rfC at hr
  refine calls_go Try.func38 rfl Try.ntmps38 (Nat.le_of_ble_eq_true rfl) ?_
  have hlr := hr.lt
  repeat (first | refine sp ?_ | (refine is_load ?_; refine ld ?_) | (refine is_store ?_; refine sr ?_) | (refine is_alloc ?_; refine al ?_) | (refine is_box ?_; refine bx ?_) | (refine isl_load ?_; refine ldl ?_) | (refine isl_store ?_; refine srl ?_) | (refine isl_alloc ?_; refine all' ?_) | (refine isl_box ?_; refine bxl ?_))
  refine go_call rfl rfl (c_rfOrder _ lo V A (h.hs.ext (by (repeat (first | exact Fr.refl _ _ | assumption | apply Fr.drewN | apply Fr.alloc | (apply Fr.transF; assumption) | (refine Fr.setRow ?_ _ (by first | exact Or.inr (by (first | omega | (simp; done) | (simp; omega))) | (exact Or.inl (by first | assumption | (simp; done))))))))) h.wf) ?_
  rintro fv w1 ⟨ho1, hx1⟩
  have hx1' : Ext w w1 := Fr.trans (by (repeat (first | exact Fr.refl _ _ | assumption | apply Fr.drewN | apply Fr.alloc | (apply Fr.transF; assumption) | (refine Fr.setRow ?_ _ (by first | exact Or.inr (by (first | omega | (simp; done) | (simp; omega))) | (exact Or.inl (by first | assumption | (simp; done)))))))) hx1
  have hs1 := hx1.size
  simp at hs1
  have hres : At w1 w.heap.size [.slice none 0 0, .slice none 0 0] 36 := At.ext (by (repeat (first | assumption | (refine At.new' (by (first | omega | (simp; done) | (simp; omega))) _ _) | apply At.alloc | apply At.drewN | apply At.setRow | (apply At.setRow_neF; first | assumption | (apply Ne.symm; assumption) | omega) | (apply At.extF; assumption)))) hx1
  have ho1 := ho1.mono (show w.heap.size ≤ _ by simp)
  obtain ⟨sf, cf, rfl, hcf, _⟩ := Own.slice ho1
  have hlres := hres.lt
  repeat (first | refine sp ?_ | (refine is_load ?_; refine ld ?_) | (refine is_store ?_; refine sr ?_) | (refine is_alloc ?_; refine al ?_) | (refine is_box ?_; refine bx ?_) | (refine isl_load ?_; refine ldl ?_) | (refine isl_store ?_; refine srl ?_) | (refine isl_alloc ?_; refine all' ?_) | (refine isl_box ?_; refine bxl ?_))
  refine go_name (F := fun w2 => At w2 w1.heap.size [.slice none 0 0, .slice sf A.order.length cf] 36 ∧ At w2 w.heap.size [.slice none 0 0, .slice none 0 0] 36 ∧ OwnN w2 w.heap.size (.slice sf A.order.length cf) A.order ∧ Ext w w2) ⟨by (repeat (first | assumption | (refine At.new' (by (first | omega | (simp; done) | (simp; omega))) _ _) | apply At.alloc | apply At.drewN | apply At.setRow | (apply At.setRow_neF; first | assumption | (apply Ne.symm; assumption) | omega) | (apply At.extF; assumption))), by (repeat (first | assumption | (refine At.new' (by (first | omega | (simp; done) | (simp; omega))) _ _) | apply At.alloc | apply At.drewN | apply At.setRow | (apply At.setRow_neF; first | assumption | (apply Ne.symm; assumption) | omega) | (apply At.extF; assumption))), (OwnN.ext ho1 (by (repeat (first | exact Fr.refl _ _ | assumption | apply Fr.drewN | apply Fr.alloc | (apply Fr.transF; assumption) | (refine Fr.setRow ?_ _ (by first | exact Or.inr (by (first | omega | (simp; done) | (simp; omega))) | (exact Or.inl (by first | assumption | (simp; done))))))))).setRow (C := _) (T := 36) (by (repeat (first | assumption | (refine At.new' (by (first | omega | (simp; done) | (simp; omega))) _ _) | apply At.alloc | apply At.drewN | apply At.setRow | (apply At.setRow_neF; first | assumption | (apply Ne.symm; assumption) | omega) | (apply At.extF; assumption)))) (by decide) _, by (repeat (first | exact Fr.refl _ _ | assumption | apply Fr.drewN | apply Fr.alloc | (apply Fr.transF; assumption) | (refine Fr.setRow ?_ _ (by first | exact Or.inr (by (first | omega | (simp; done) | (simp; omega))) | (exact Or.inl (by first | assumption | (simp; done)))))))⟩ ?_
  rintro w2 ⟨hd2, hr2, hf2, hx2⟩
  have hld := hd2.lt
  have hs2 := hx2.size
  clear hx1 hx1' ho1 hres
  generalize w1.heap.size = db at *
  refine go_loop (G := Nat × Value) [4] (fun g => [.int .i64 (g.1 : Int)]) [(0, ptr r), (2, ptr w.heap.size), (3, ptr db)]
    (fun g w' => g.1 ≤ A.cap ∧ At w' db [g.2, .slice sf A.order.length cf] 36 ∧ OwnS w' w2.heap.size g.2 ((List.range g.1).map fun j => A.slt (j + 1)) ∧ OwnN w' w.heap.size (.slice sf A.order.length cf) A.order ∧ At w' w.heap.size [.slice none 0 0, .slice none 0 0] 36 ∧ Ext w w' ∧ w2.heap.size ≤ w'.heap.size) (fun g => A.cap - g.1) (0, .slice none 0 0) rfl ⟨rfl, rfl, rfl, trivial⟩ ⟨by omega, hd2, Own.nil _ _ _ _, hf2, hr2, hx2, Nat.le_refl _⟩ ?_
  rintro ⟨k, v⟩ w3 ⟨hk, hd3, ho3, hf3, hr3, hx3, hs3⟩
  simp only at hk hd3 ho3
  have h3 := h.ext hx3
  have hR := h3.hr
  unfold rfC at hR
  have hll : ((List.range k).map fun j => A.slt (j + 1)).length = k := by simp
  have ho3' := ho3
  unfold OwnS at ho3
  rw [hll] at ho3
  obtain ⟨s3, c3, rfl, _, _⟩ := ho3.slice
  by_cases hlt : k < A.cap
  · obtain ⟨b1, o1, c1, e1, _, hon⟩ := h3.onAt hlt
    obtain ⟨b2, o2, c2, e2, _, hgen⟩ := h3.genAt hlt
    rw [e1, e2] at hR
    rw [show A.gen (k + 1) = A.genOf (k + 1) by unfold AR.genOf; rw [if_pos (by omega)]] at hgen
    have hcn : w3.cell? ⟨V.cb, 0 + k, none⟩ = some (.int .i64 (A.countOf (k + 1))) := by
      rw [hz (k + 1) (by omega) (by omega), Nat.zero_add]
      exact h3.hc.cell (one_get (f := fun j => Value.int .i64 (A.cnt (j + 1))) hlt)
    have hn3 := h3.hn
    repeat (first | refine sp ?_ | (refine is_load ?_; refine ld ?_) | (refine is_store ?_; refine sr ?_) | (refine is_alloc ?_; refine al ?_) | (refine is_box ?_; refine bx ?_) | (refine isl_load ?_; refine ldl ?_) | (refine isl_store ?_; refine srl ?_) | (refine isl_alloc ?_; refine all' ?_) | (refine isl_box ?_; refine bxl ?_))
    refine go_drawE (Fr (fun _ => False) w3) 3 Try.follows (by kernel_rfl) (by kernel_rfl) (by kernel_rfl) ((Fr.refl _ _).drewN 1) ?_
    repeat (first | refine sp ?_ | (refine is_load ?_; refine ld ?_) | (refine is_store ?_; refine sr ?_) | (refine is_alloc ?_; refine al ?_) | (refine is_box ?_; refine bx ?_) | (refine isl_load ?_; refine ldl ?_) | (refine isl_store ?_; refine srl ?_) | (refine isl_alloc ?_; refine all' ?_) | (refine isl_box ?_; refine bxl ?_))
    refine gol_load (v := .agg ⟨(A.node (k + 1)).cells⟩) rfl rfl (ldD_of fun w' f => node_ld (f := fun j => A.node (j + 1)) (At.fr hn3 f id) hlt) ?_
    repeat (first | refine sp ?_ | (refine is_load ?_; refine ld ?_) | (refine is_store ?_; refine sr ?_) | (refine is_alloc ?_; refine al ?_) | (refine is_box ?_; refine bx ?_) | (refine isl_load ?_; refine ldl ?_) | (refine isl_store ?_; refine srl ?_) | (refine isl_alloc ?_; refine all' ?_) | (refine isl_box ?_; refine bxl ?_))
    refine gol_litG (l := (A.slt (k + 1)).cells) rfl rfl (by decide) (by decide) rfl (by show Fr _ _ _; (repeat (first | exact Fr.refl _ _ | assumption | apply Fr.drewN | apply Fr.alloc | (apply Fr.transF; assumption) | (refine Fr.setRow ?_ _ (by first | exact Or.inr (by (first | omega | (simp; done) | (simp; omega))) | (exact Or.inl (by first | assumption | (simp; done)))))))) ?_
    repeat (first | refine sp ?_ | (refine is_load ?_; refine ld ?_) | (refine is_store ?_; refine sr ?_) | (refine is_alloc ?_; refine al ?_) | (refine is_box ?_; refine bx ?_) | (refine isl_load ?_; refine ldl ?_) | (refine isl_store ?_; refine srl ?_) | (refine isl_alloc ?_; refine all' ?_) | (refine isl_box ?_; refine bxl ?_))
    have hx4 : Ext w3 ((w3.drewN 1).alloc (.cells (A.slt (k + 1)).cells.toArray 52)) := by (repeat (first | exact Fr.refl _ _ | assumption | apply Fr.drewN | apply Fr.alloc | (apply Fr.transF; assumption) | (refine Fr.setRow ?_ _ (by first | exact Or.inr (by (first | omega | (simp; done) | (simp; omega))) | (exact Or.inl (by first | assumption | (simp; done)))))))
    have hat := At.new (w3.drewN 1) (A.slt (k + 1)).cells 52
    refine gol_appendG (r := 1) (sa := some ⟨(w3.drewN 1).heap.size, 0, none⟩) (news := (A.slt (k + 1)).cells) (by decide) rfl rfl rfl (Own.ext ho3 hx4) (by
      intro j u hj
      exact ⟨_, _, rfl, by have := hat.cell (i := j) (v := u) hj; simpa using this⟩) rfl (slt_one _) (by simp [maxLen]; omega) (by omega) (by simp; omega) ?_
    intro v5 w5 ho5 hg5 _
    have hf5 := Fr.of_grown hg5
    have hD5 := (hx4.mono (S' := fun x => (Value.slice s3 k c3).ownBlock = some x) fun _ e => e.elim).trans hf5
    refine ⟨trivial, ?_⟩
    have hd5 : At w5 db [Value.slice s3 k c3, .slice sf A.order.length cf] 36 := hd3.fr hD5 (fun e => ho3'.nec hd3 (by decide) e)
    have hr5 : At w5 w.heap.size [.slice none 0 0, .slice none 0 0] 36 := hr3.fr hD5 (fun e => ho3'.nec hr3 (by decide) e)
    have hf5' : OwnN w5 w.heap.size (.slice sf A.order.length cf) A.order := Own.of_heap hf3 fun x hx => hD5.block x (Own.block_lt hf3 hx).1 fun e => by
      obtain ⟨_, C', hat'⟩ := Own.block_lt hf3 hx
      exact ho3'.nec hat' (by decide) e
    have hx5 : Ext w w5 := ext_grown (hx3.trans hx4) (by omega) (Own.ext ho3 hx4) hg5
    have hz5 := hD5.size
    have he : ((List.range (k + 1)).map fun j => A.slt (j + 1)) = ((List.range k).map fun j => A.slt (j + 1)) ++ [A.slt (k + 1)] := by rw [List.range_succ, List.map_append]; rfl
    have ho6 : OwnS w5 w2.heap.size v5 ((List.range (k + 1)).map fun j => A.slt (j + 1)) := by
      unfold OwnS
      rw [he, List.flatMap_append, List.length_append, hll]
      simpa using ho5
    have hdn := hd5.ne hr5
    have hwd : w.heap.size ≠ db := by omega
    obtain ⟨s6, c6, rfl, _, _⟩ := Own.slice ho6
    have hnb := ho6.nec hd5 (by decide)
    have ho7 : ∀ cs, OwnS (w5.setRow db cs) w2.heap.size (Value.slice s6 ((List.range (k + 1)).map fun j => A.slt (j + 1)).length c6) ((List.range (k + 1)).map fun j => A.slt (j + 1)) := fun cs => Own.of_heap ho6 fun x hx => setRow_other _ _ _ _ fun e => hnb (e ▸ hx)
    repeat (first | refine sp ?_ | (refine is_load ?_; refine ld ?_) | (refine is_store ?_; refine sr ?_) | (refine is_alloc ?_; refine al ?_) | (refine is_box ?_; refine bx ?_) | (refine isl_load ?_; refine ldl ?_) | (refine isl_store ?_; refine srl ?_) | (refine isl_alloc ?_; refine all' ?_) | (refine isl_box ?_; refine bxl ?_))
    refine go_stop (G := Nat × Value) (k + 1, _) rfl ⟨rfl, rfl, rfl, trivial⟩ ⟨hlt, ?_, ho7 _, hf5'.setRow hd5 (by decide) _, ?_, ?_, ?_⟩ (by show A.cap - (k + 1) < A.cap - k; omega)
    · (repeat (first | assumption | (refine At.new' (by (first | omega | (simp; done) | (simp; omega))) _ _) | apply At.alloc | apply At.drewN | apply At.setRow | (apply At.setRow_neF; first | assumption | (apply Ne.symm; assumption) | omega) | (apply At.extF; assumption)))
    · (repeat (first | assumption | (refine At.new' (by (first | omega | (simp; done) | (simp; omega))) _ _) | apply At.alloc | apply At.drewN | apply At.setRow | (apply At.setRow_neF; first | assumption | (apply Ne.symm; assumption) | omega) | (apply At.extF; assumption)))
    · (repeat (first | exact Fr.refl _ _ | assumption | apply Fr.drewN | apply Fr.alloc | (apply Fr.transF; assumption) | (refine Fr.setRow ?_ _ (by first | exact Or.inr (by (first | omega | (simp; done) | (simp; omega))) | (exact Or.inl (by first | assumption | (simp; done)))))))
    · simp; omega
  · obtain rfl : k = A.cap := by omega
    have hdn : db ≠ w.heap.size := by omega
    repeat (first | refine sp ?_ | (refine is_load ?_; refine ld ?_) | (refine is_store ?_; refine sr ?_) | (refine is_alloc ?_; refine al ?_) | (refine is_box ?_; refine bx ?_) | (refine isl_load ?_; refine ldl ?_) | (refine isl_store ?_; refine srl ?_) | (refine isl_alloc ?_; refine all' ?_) | (refine isl_box ?_; refine bxl ?_))
    refine go_ret1 rfl ⟨_, rfl, Ld.run (ld_part (by (repeat (first | assumption | (refine At.new' (by (first | omega | (simp; done) | (simp; omega))) _ _) | apply At.alloc | apply At.drewN | apply At.setRow | (apply At.setRow_neF; first | assumption | (apply Ne.symm; assumption) | omega) | (apply At.extF; assumption)))) rfl rfl)⟩ ⟨_, rfl, ⟨_, _, rfl, ?_, ?_⟩, by (repeat (first | exact Fr.refl _ _ | assumption | apply Fr.drewN | apply Fr.alloc | (apply Fr.transF; assumption) | (refine Fr.setRow ?_ _ (by first | exact Or.inr (by (first | omega | (simp; done) | (simp; omega))) | (exact Or.inl (by first | assumption | (simp; done)))))))⟩
    · have ho8 : OwnS (w3.setRow w.heap.size [Value.slice s3 A.cap c3, .slice sf A.order.length cf].toArray) w2.heap.size (Value.slice s3 A.cap c3) A.dump.slots := by
        refine Own.of_heap (by unfold AR.dump; simpa [OwnS] using ho3') fun x hx => setRow_other _ _ _ _ fun e => ?_
        exact ho3'.nec hr3 (by decide) (e ▸ hx)
      exact (Own.rd ho8 rfl).mono (by omega)
    · exact (hf3.setRow hr3 (by decide) _).rd

end Go.Proofs.Ytapocbahkeoeoaa
