/-
  What was allocated is kept.
-/
import Derived.Test.YtfaeboamjfdjlaaAr
import Derived.Test.YtfaeboamjfdjlaaGt
import Derived.Test.YtfaeboamjfdjlaaDn
set_option linter.unusedVariables false
namespace Go.Proofs.Ytfaeboamjfdjlaa
open Go.Vc

def KeptL (xs ys : List Slt) : Prop := xs.length = ys.length ∧ ∀ (i : Nat) (x y : Slt), xs[i]? = some x → ys[i]? = some y → x.on = true → y.on = true ∧ y.nd = x.nd ∧ y.gen = x.gen

theorem Kp.kept {A R : AR} (kp : Kp A R) (hw : Wf A) : KeptL A.dump.slots R.dump.slots := by
  refine ⟨by simp [AR.dump, kp.cap], fun i x y hx hy hon => ?_⟩
  have hi : i < A.cap := by
    have := (List.getElem?_eq_some_iff.1 hx).1
    simpa [AR.dump] using this
  rw [dump_get hi] at hx
  rw [dump_get (show i < R.cap by rw [kp.cap]; exact hi)] at hy
  simp only [Option.some.injEq] at hx hy
  subst hx; subst hy
  obtain ⟨a, b, c⟩ := kp.old (i + 1) hon
  refine ⟨a, b, ?_⟩
  show R.genOf (i + 1) = A.genOf (i + 1)
  unfold AR.genOf
  rw [kp.cap, c]

set_option maxHeartbeats 8000000 in
theorem c_Kept (w : World) (lo1 lo2 : Nat) (v1 v2 : Value) (D1 D2 : Dp) (hd1 : DpAt w lo1 v1 D1) (hd2 : DpAt w lo2 v2 D2) (hk : KeptL D1.slots D2.slots) (hl : D1.slots.length ≤ 1000000) :
    Calls Try.prog 22 [v1, v2].toArray w (Ret fun r w' => r = .bool true ∧ Ext w w') := by
  obtain ⟨hkl, hkk⟩ := hk
  obtain ⟨s1, f1, rfl, h1, _⟩ := hd1
  obtain ⟨s2, f2, rfl, h2, _⟩ := hd2
  have u1 := h1.up
  have u2 := h2.up
  obtain ⟨a1, c1, rfl, _, _, _⟩ := h1
  obtain ⟨a2, c2, rfl, _, _, _⟩ := h2
  obtain ⟨n, hn⟩ : ∃ n, D1.slots.length = n := ⟨_, rfl⟩
  have hn2 : D2.slots.length = n := by omega
  rw [hn] at u1 ⊢
  rw [hn2] at u2 ⊢
  refine calls_go Try.func22 rfl Try.ntmps22 (Nat.le_of_ble_eq_true rfl) ?_
  repeat (first | refine sp ?_ | (refine is_load ?_; refine ld ?_) | (refine is_store ?_; refine sr ?_) | (refine is_alloc ?_; refine al ?_) | (refine is_box ?_; refine bx ?_) | (refine isl_load ?_; refine ldl ?_) | (refine isl_store ?_; refine srl ?_) | (refine isl_alloc ?_; refine all' ?_) | (refine isl_box ?_; refine bxl ?_))
  refine go_loop (G := Nat) [5] (fun k => [.int .i64 (k : Int)]) [(2, ptr w.heap.size), (3, ptr (w.heap.size + 1))]
    (fun k w' => k ≤ n ∧ At w' w.heap.size [.slice a1 n c1, f1] 31 ∧ At w' (w.heap.size + 1) [.slice a2 n c2, f2] 31 ∧ Ext w w') (fun k => n - k) 0 rfl ⟨by simp; rfl, by simp; rfl, trivial⟩ ⟨by omega, by (repeat (first | assumption | (refine At.new' (by (first | omega | (simp; done) | (simp; omega))) _ _) | apply At.alloc | apply At.drewN | apply At.setRow | (apply At.setRow_neF; first | assumption | (apply Ne.symm; assumption) | omega) | (apply At.extF; assumption))), by (repeat (first | assumption | (refine At.new' (by (first | omega | (simp; done) | (simp; omega))) _ _) | apply At.alloc | apply At.drewN | apply At.setRow | (apply At.setRow_neF; first | assumption | (apply Ne.symm; assumption) | omega) | (apply At.extF; assumption))), by (repeat (first | exact Fr.refl _ _ | assumption | apply Fr.drewN | apply Fr.alloc | (apply Fr.transF; assumption) | (refine Fr.setRow ?_ _ (by first | exact Or.inr (by (first | omega | (simp; done) | (simp; omega))) | (exact Or.inl (by first | assumption | (simp; done)))))))⟩ ?_
  rintro k w1 ⟨hk, hb1, hb2, hx1⟩
  have hl1 := hb1.lt
  have hl2 := hb2.lt
  by_cases hlt : k < n
  · obtain ⟨b, o, e, hbl, hcell⟩ := (u1.ext hx1).at (m := 11) slt_len (by omega) (show k < D1.slots.length by omega)
    subst e
    obtain ⟨b2, o2, e, hbl2, hcell2⟩ := (u2.ext hx1).at (m := 11) slt_len (by omega) (show k < D2.slots.length by omega)
    subst e
    have hR := hkk k _ _ (List.getElem?_eq_getElem (show k < D1.slots.length by omega)) (List.getElem?_eq_getElem (show k < D2.slots.length by omega))
    generalize D1.slots[k] = x at *
    generalize D2.slots[k] = y at *
    repeat (first | refine sp ?_ | (refine is_load ?_; refine ld ?_) | (refine is_store ?_; refine sr ?_) | (refine is_alloc ?_; refine al ?_) | (refine is_box ?_; refine bx ?_) | (refine isl_load ?_; refine ldl ?_) | (refine isl_store ?_; refine srl ?_) | (refine isl_alloc ?_; refine all' ?_) | (refine isl_box ?_; refine bxl ?_))
    refine go_cut (G := Nat × Nat) [6, 7] (fun ⟨bx, by_⟩ => [ptr bx, ptr by_]) [(2, ptr w.heap.size), (3, ptr (w.heap.size + 1)), (5, .int .i64 (k : Int))]
      (fun ⟨bx, by_⟩ w' => At w' bx [.bool x.on, .int .i64 x.cnt, .int .u32 (x.gen : Int), .int .i64 x.nd.key, .int .i64 x.nd.val, .int .u32 (x.nd.left : Int), .int .u32 (x.nd.right : Int), .int .i64 x.nd.size, .int .i64 x.nd.sum, .int .i64 x.nd.mn, .int .i64 x.nd.mx] 43 ∧ At w' by_ [.bool y.on, .int .i64 y.cnt, .int .u32 (y.gen : Int), .int .i64 y.nd.key, .int .i64 y.nd.val, .int .u32 (y.nd.left : Int), .int .u32 (y.nd.right : Int), .int .i64 y.nd.size, .int .i64 y.nd.sum, .int .i64 y.nd.mn, .int .i64 y.nd.mx] 43 ∧ At w' w.heap.size [.slice (some ⟨b, o, none⟩) n c1, f1] 31 ∧ At w' (w.heap.size + 1) [.slice (some ⟨b2, o2, none⟩) n c2, f2] 31 ∧ Ext w1 w') ?_ ?_
    · refine go_sched (Fr (fun _ => False) w1) (.op 0 (.op 1 (.op 2 (.op 3 (.op 4 (.op 5 (.op 6 (.op 7 (.op 8 (.op 9 (.alt 10 (.op 11 (.op 12 (.op 13 (.fin)))) (.op 11 (.op 10 (.op 12 (.op 13 (.fin)))))))))))))))) Try.follows (by kernel_rfl) (by kernel_rfl) (by kernel_rfl) ((Fr.refl _ _).drewN 1) ?_
      repeat (first | refine sp ?_ | (refine is_load ?_; refine ld ?_) | (refine is_store ?_; refine sr ?_) | (refine is_alloc ?_; refine al ?_) | (refine is_box ?_; refine bx ?_) | (refine isl_load ?_; refine ldl ?_) | (refine isl_store ?_; refine srl ?_) | (refine isl_alloc ?_; refine all' ?_) | (refine isl_box ?_; refine bxl ?_) | refine dr Try.follows ?_)
      refine gol_load (v := .agg x.cells.toArray) rfl rfl (ldD_cells (m := 11) (w := w1) rfl (by decide) (fun j u hj => by rw [addr_add]; exact hcell j u hj) id) ?_
      repeat (first | refine sp ?_ | (refine is_load ?_; refine ld ?_) | (refine is_store ?_; refine sr ?_) | (refine is_alloc ?_; refine al ?_) | (refine is_box ?_; refine bx ?_) | (refine isl_load ?_; refine ldl ?_) | (refine isl_store ?_; refine srl ?_) | (refine isl_alloc ?_; refine all' ?_) | (refine isl_box ?_; refine bxl ?_) | refine dr Try.follows ?_)
      refine gol_load (v := .agg y.cells.toArray) rfl rfl (ldD_cells (m := 11) (w := w1) rfl (by decide) (fun j u hj => by rw [addr_add]; exact hcell2 j u hj) id) ?_
      unfold Slt.cells
      refine gol_nil ?_
      refine go_alt rfl ?_ ?_
      · refine isl_alloc ?_; refine all' ?_
        refine gol_nil ?_
        refine go_op rfl ?_
        refine isl_alloc ?_; refine all' ?_
        refine gol_nil ?_
        refine go_op rfl ?_
        refine isl_store ?_; refine srl ?_
        refine gol_nil ?_
        refine go_op rfl ?_
        refine isl_store ?_; refine srl ?_
        refine gol_nil ?_
        refine go_fin ?_
        exact go_stop (G := Nat × Nat) (_, _) rfl ⟨rfl, rfl, rfl, trivial⟩ ⟨by (repeat (first | assumption | (refine At.new' (by (first | omega | (simp; done) | (simp; omega))) _ _) | apply At.alloc | apply At.drewN | apply At.setRow | (apply At.setRow_neF; first | assumption | (apply Ne.symm; assumption) | omega) | (apply At.extF; assumption))), by (repeat (first | assumption | (refine At.new' (by (first | omega | (simp; done) | (simp; omega))) _ _) | apply At.alloc | apply At.drewN | apply At.setRow | (apply At.setRow_neF; first | assumption | (apply Ne.symm; assumption) | omega) | (apply At.extF; assumption))), by (repeat (first | assumption | (refine At.new' (by (first | omega | (simp; done) | (simp; omega))) _ _) | apply At.alloc | apply At.drewN | apply At.setRow | (apply At.setRow_neF; first | assumption | (apply Ne.symm; assumption) | omega) | (apply At.extF; assumption))), by (repeat (first | assumption | (refine At.new' (by (first | omega | (simp; done) | (simp; omega))) _ _) | apply At.alloc | apply At.drewN | apply At.setRow | (apply At.setRow_neF; first | assumption | (apply Ne.symm; assumption) | omega) | (apply At.extF; assumption))), by show Ext _ _; (repeat (first | exact Fr.refl _ _ | assumption | apply Fr.drewN | apply Fr.alloc | (apply Fr.transF; assumption) | (refine Fr.setRow ?_ _ (by first | exact Or.inr (by (first | omega | (simp; done) | (simp; omega))) | (exact Or.inl (by first | assumption | (simp; done)))))))⟩ trivial
      refine go_op rfl ?_
      refine isl_alloc ?_; refine all' ?_
      refine gol_nil ?_
      refine go_op rfl ?_
      refine isl_alloc ?_; refine all' ?_
      refine gol_nil ?_
      refine go_op rfl ?_
      refine isl_store ?_; refine srl ?_
      refine gol_nil ?_
      refine go_op rfl ?_
      refine isl_store ?_; refine srl ?_
      refine gol_nil ?_
      refine go_fin ?_
      exact go_stop (G := Nat × Nat) (_, _) rfl ⟨rfl, rfl, rfl, trivial⟩ ⟨by (repeat (first | assumption | (refine At.new' (by (first | omega | (simp; done) | (simp; omega))) _ _) | apply At.alloc | apply At.drewN | apply At.setRow | (apply At.setRow_neF; first | assumption | (apply Ne.symm; assumption) | omega) | (apply At.extF; assumption))), by (repeat (first | assumption | (refine At.new' (by (first | omega | (simp; done) | (simp; omega))) _ _) | apply At.alloc | apply At.drewN | apply At.setRow | (apply At.setRow_neF; first | assumption | (apply Ne.symm; assumption) | omega) | (apply At.extF; assumption))), by (repeat (first | assumption | (refine At.new' (by (first | omega | (simp; done) | (simp; omega))) _ _) | apply At.alloc | apply At.drewN | apply At.setRow | (apply At.setRow_neF; first | assumption | (apply Ne.symm; assumption) | omega) | (apply At.extF; assumption))), by (repeat (first | assumption | (refine At.new' (by (first | omega | (simp; done) | (simp; omega))) _ _) | apply At.alloc | apply At.drewN | apply At.setRow | (apply At.setRow_neF; first | assumption | (apply Ne.symm; assumption) | omega) | (apply At.extF; assumption))), by show Ext _ _; (repeat (first | exact Fr.refl _ _ | assumption | apply Fr.drewN | apply Fr.alloc | (apply Fr.transF; assumption) | (refine Fr.setRow ?_ _ (by first | exact Or.inr (by (first | omega | (simp; done) | (simp; omega))) | (exact Or.inl (by first | assumption | (simp; done)))))))⟩ trivial
    · rintro ⟨bx, by_⟩ w2 ⟨hX, hY, hB1, hB2, hx2⟩
      have hx12 := hx1.trans hx2
      obtain ⟨xo, xc, xg, X⟩ := x
      obtain ⟨yo, yc, yg, Y⟩ := y
      simp only at hX hY hR
      cases xo with
      | false =>
        repeat (first | refine sp ?_ | (refine is_load ?_; refine ld ?_) | (refine is_store ?_; refine sr ?_) | (refine is_alloc ?_; refine al ?_) | (refine is_box ?_; refine bx ?_) | (refine isl_load ?_; refine ldl ?_) | (refine isl_store ?_; refine srl ?_) | (refine isl_alloc ?_; refine all' ?_) | (refine isl_box ?_; refine bxl ?_))
        exact go_stop (G := Nat) (k + 1) rfl ⟨rfl, rfl, trivial⟩ ⟨hlt, hB1, hB2, hx12⟩ (by show n - (k + 1) < n - k; omega)
      | true =>
        obtain ⟨rfl, rfl, rfl⟩ := hR rfl
        repeat (first | refine sp ?_ | (refine is_load ?_; refine ld ?_) | (refine is_store ?_; refine sr ?_) | (refine is_alloc ?_; refine al ?_) | (refine is_box ?_; refine bx ?_) | (refine isl_load ?_; refine ldl ?_) | (refine isl_store ?_; refine srl ?_) | (refine isl_alloc ?_; refine all' ?_) | (refine isl_box ?_; refine bxl ?_))
        refine go_as 45 (u' := .bool false) rfl (by simp [eqL]) ?_
        repeat (first | refine sp ?_ | (refine is_load ?_; refine ld ?_) | (refine is_store ?_; refine sr ?_) | (refine is_alloc ?_; refine al ?_) | (refine is_box ?_; refine bx ?_) | (refine isl_load ?_; refine ldl ?_) | (refine isl_store ?_; refine srl ?_) | (refine isl_alloc ?_; refine all' ?_) | (refine isl_box ?_; refine bxl ?_))
        exact go_stop (G := Nat) (k + 1) rfl ⟨rfl, rfl, trivial⟩ ⟨hlt, hB1, hB2, hx12⟩ (by show n - (k + 1) < n - k; omega)
  · repeat (first | refine sp ?_ | (refine is_load ?_; refine ld ?_) | (refine is_store ?_; refine sr ?_) | (refine is_alloc ?_; refine al ?_) | (refine is_box ?_; refine bx ?_) | (refine isl_load ?_; refine ldl ?_) | (refine isl_store ?_; refine srl ?_) | (refine isl_alloc ?_; refine all' ?_) | (refine isl_box ?_; refine bxl ?_))
    exact go_ret1 rfl rfl ⟨_, rfl, rfl, hx1⟩

end Go.Proofs.Ytfaeboamjfdjlaa
