/-
  The reference arena: Make.
-/
import Derived.Test.YtapocbahkeoeoaaRp
set_option linter.unusedVariables false
namespace Go.Proofs.Ytapocbahkeoeoaa
open Go.Vc

/-- The same state, but for the count of slot 0. -/
structure Cq (A B : AR) : Prop where
  cap : B.cap = A.cap
  used : B.used = A.used
  gen : B.gen = A.gen
  rel : B.rel = A.rel
  fresh : B.fresh = A.fresh
  node : B.node = A.node
  reads : B.reads = A.reads
  c : ∀ i, 1 ≤ i → B.cnt i = A.cnt i
theorem Cq.refl (A : AR) : Cq A A := ⟨rfl, rfl, rfl, rfl, rfl, rfl, rfl, fun _ _ => rfl⟩
theorem Cq.trans {A B C : AR} (h : Cq A B) (g : Cq B C) : Cq A C := ⟨g.cap.trans h.cap, g.used.trans h.used, g.gen.trans h.gen, g.rel.trans h.rel, g.fresh.trans h.fresh, g.node.trans h.node, g.reads.trans h.reads, fun i hi => (g.c i hi).trans (h.c i hi)⟩
theorem RfAt.cq {w : World} {lo r : Nat} {V : RV} {A B : AR} (h : RfAt w lo r V A) (q : Cq A B) : RfAt w lo r V B := by
  obtain ⟨q1, q2, q3, q4, q5, q6, q7, q8⟩ := q
  have e : B = { A with cnt := B.cnt } := by
    cases A; cases B; simp only at q1 q2 q3 q4 q5 q6 q7; subst q1; subst q2; subst q3; subst q4; subst q5; subst q6; subst q7; rfl
  rw [e]
  exact h.cong B.cnt q8
theorem Cq.inc {A B : AR} (q : Cq A B) (i : Nat) : Cq (A.inc i) (B.inc i) := by
  refine ⟨q.cap, q.used, q.gen, q.rel, q.fresh, q.node, q.reads, fun j hj => ?_⟩
  show upd B.cnt i (w64 (B.cnt i + 1)) j = upd A.cnt i (w64 (A.cnt i + 1)) j
  unfold upd
  split
  · rename_i e; rw [← e, q.c j hj]
  · exact q.c j hj
theorem Cq.ret (A : AR) {i : Nat} (h : i = 0 ∨ A.used i = true) : Cq (A.retain i) (A.inc i) := by
  by_cases h0 : i = 0
  · subst h0
    rw [show A.retain 0 = A by simp [AR.retain]]
    refine ⟨rfl, rfl, rfl, rfl, rfl, rfl, rfl, fun j hj => ?_⟩
    show upd A.cnt 0 _ j = _
    rw [upd_ne _ _ (by omega)]
  · rw [show A.retain i = A.inc i by unfold AR.retain; rw [if_pos ⟨h0, h.resolve_left h0⟩]]
    exact Cq.refl _

set_option maxHeartbeats 2000000 in
theorem c_rfMake (w : World) (lo r : Nat) (V : RV) (A : AR) (k v : Int) (l rr : Nat) (h : RfAt w lo r V A) (hlo : lo ≤ w.heap.size) (hl : l < 4294967296) (hrr : rr < 4294967296) :
    Calls Try.prog 55 [ptr r, .int .i64 k, .int .i64 v, .int .u32 (l : Int), .int .u32 (rr : Int)].toArray w (Ret fun x w' => x = .tuple #[.int .u32 (A.makeI k v l rr : Int), .int .i64 (A.makeE k v l rr)] ∧ ∃ V', RfAt w' lo r V' (A.make k v l rr) ∧ RGr r V V' w w') := by
  have hcap := h.wf.capM
  have hr := h.hr
  unfold rfC at hr
  have hlr := hr.lt
  obtain ⟨n1, n2, n3⟩ := h.sep
  have hln := h.hn.lt
  have hlc := h.hc.lt
  have hbad : okI A l = false ∨ okI A rr = false → A.makeE k v l rr = 1 ∧ A.makeI k v l rr = 0 ∧ A.make k v l rr = A := by
    intro hb
    have e1 : A.makeE k v l rr = 1 := by
      unfold AR.makeE
      rw [if_pos]
      unfold okI at hb
      simp only [Bool.or_eq_false_iff, decide_eq_false_iff_not] at hb
      rcases hb with hb | hb
      · exact Or.inl hb
      · exact Or.inr (Or.inl hb)
    exact ⟨e1, by unfold AR.makeI; rw [e1]; rfl, by unfold AR.make; rw [e1]; rfl⟩
  refine calls_go Try.func55 rfl Try.ntmps55 (Nat.le_of_ble_eq_true rfl) ?_
  repeat (first | refine sp ?_ | (refine is_load ?_; refine ld ?_) | (refine is_store ?_; refine sr ?_) | (refine is_alloc ?_; refine al ?_) | (refine is_box ?_; refine bx ?_) | (refine isl_load ?_; refine ldl ?_) | (refine isl_store ?_; refine srl ?_) | (refine isl_alloc ?_; refine all' ?_) | (refine isl_box ?_; refine bxl ?_))
  refine go_call rfl rfl (c_rfIndex w lo r V A l h hl) ?_
  rintro _ w1 ⟨rfl, hx1⟩
  cases hol : okI A l with
  | false =>
    obtain ⟨e1, e2, e3⟩ := hbad (Or.inl hol)
    rw [e1, e2, e3]
    repeat (first | refine sp ?_ | (refine is_load ?_; refine ld ?_) | (refine is_store ?_; refine sr ?_) | (refine is_alloc ?_; refine al ?_) | (refine is_box ?_; refine bx ?_) | (refine isl_load ?_; refine ldl ?_) | (refine isl_store ?_; refine srl ?_) | (refine isl_alloc ?_; refine all' ?_) | (refine isl_box ?_; refine bxl ?_))
    exact go_ret2 rfl rfl rfl ⟨_, rfl, rfl, V, h.ext hx1, RGr.ext hx1⟩
  | true =>
  repeat (first | refine sp ?_ | (refine is_load ?_; refine ld ?_) | (refine is_store ?_; refine sr ?_) | (refine is_alloc ?_; refine al ?_) | (refine is_box ?_; refine bx ?_) | (refine isl_load ?_; refine ldl ?_) | (refine isl_store ?_; refine srl ?_) | (refine isl_alloc ?_; refine all' ?_) | (refine isl_box ?_; refine bxl ?_))
  refine go_call rfl rfl (c_rfIndex w1 lo r V A rr (h.ext hx1) hrr) ?_
  rintro _ w2 ⟨rfl, hx2⟩
  replace hx2 := hx1.trans hx2
  cases hor : okI A rr with
  | false =>
    obtain ⟨e1, e2, e3⟩ := hbad (Or.inr hor)
    rw [e1, e2, e3]
    repeat (first | refine sp ?_ | (refine is_load ?_; refine ld ?_) | (refine is_store ?_; refine sr ?_) | (refine is_alloc ?_; refine al ?_) | (refine is_box ?_; refine bx ?_) | (refine isl_load ?_; refine ldl ?_) | (refine isl_store ?_; refine srl ?_) | (refine isl_alloc ?_; refine all' ?_) | (refine isl_box ?_; refine bxl ?_))
    exact go_ret2 rfl rfl rfl ⟨_, rfl, rfl, V, h.ext hx2, RGr.ext hx2⟩
  | true =>
  have hokl : l = 0 ∨ A.used l = true := by simpa [okI] using hol
  have hokr : rr = 0 ∨ A.used rr = true := by simpa [okI] using hor
  have hl2 := hx2.size
  repeat (first | refine sp ?_ | (refine is_load ?_; refine ld ?_) | (refine is_store ?_; refine sr ?_) | (refine is_alloc ?_; refine al ?_) | (refine is_box ?_; refine bx ?_) | (refine isl_load ?_; refine ldl ?_) | (refine isl_store ?_; refine srl ?_) | (refine isl_alloc ?_; refine all' ?_) | (refine isl_box ?_; refine bxl ?_))
  refine go_loop (G := Nat) [13] (fun j => [.int .i64 (j : Int)]) [(0, ptr r), (3, .int .u32 (l : Int)), (4, .int .u32 (rr : Int)), (12, ptr w2.heap.size)]
    (fun j w' => j ≤ 2 ∧ At w' w2.heap.size (mkS A k v l rr j).cells 50 ∧ Ext w w') (fun j => 2 - j) 0 rfl ⟨rfl, rfl, rfl, rfl, trivial⟩ ⟨by omega, ?_, ?_⟩ ?_
  · show At _ w2.heap.size (mkS A k v l rr 0).cells _
    (repeat (first | assumption | (refine At.new' (by (first | omega | (simp; done) | (simp; omega))) _ _) | apply At.alloc | apply At.drewN | apply At.setRow | (apply At.setRow_neF; first | assumption | (apply Ne.symm; assumption) | omega) | (apply At.extF; assumption)))
  · (repeat (first | exact Fr.refl _ _ | assumption | apply Fr.drewN | apply Fr.alloc | (apply Fr.transF; assumption) | (refine Fr.setRow ?_ _ (by first | exact Or.inr (by (first | omega | (simp; done) | (simp; omega))) | (exact Or.inl (by first | assumption | (simp; done)))))))
  rintro j w3 ⟨hj, hloc, hx3⟩
  have h3 := h.ext hx3
  have hr3 := h3.hr
  unfold rfC at hr3
  by_cases hlt : j < 2
  · obtain rfl | rfl : j = 0 ∨ j = 1 := by omega
    · obtain ⟨c, rfl⟩ : ∃ c, c = l := ⟨_, rfl⟩
      have hokc := hokl
      have hsucc : mkS A k v c rr 1 = addC A c (mkS A k v c rr 0) := rfl
      obtain ⟨N, hN⟩ : ∃ N, mkS A k v c rr 0 = N := ⟨_, rfl⟩
      obtain ⟨M, hM⟩ : ∃ M, mkS A k v c rr 1 = M := ⟨_, rfl⟩
      skip
      rw [hN] at hloc hsucc
      rw [hM] at hsucc
      unfold Nd.cells at hloc
      have hl3 := hloc.lt
      by_cases hc0 : c = 0
      · subst hc0
        have e : N = M := by rw [hsucc]; rfl
        repeat (first | refine sp ?_ | (refine is_load ?_; refine ld ?_) | (refine is_store ?_; refine sr ?_) | (refine is_alloc ?_; refine al ?_) | (refine is_box ?_; refine bx ?_) | (refine isl_load ?_; refine ldl ?_) | (refine isl_store ?_; refine srl ?_) | (refine isl_alloc ?_; refine all' ?_) | (refine isl_box ?_; refine bxl ?_))
        refine go_stop (G := Nat) 1 rfl ⟨rfl, rfl, rfl, rfl, trivial⟩ ⟨by omega, ?_, hx3⟩ (by show 2 - _ < 2 - _; omega)
        rw [hM, ← e]; exact hloc
      · have hu : A.used c = true := hokc.resolve_left hc0
        repeat (first | refine sp ?_ | (refine is_load ?_; refine ld ?_) | (refine is_store ?_; refine sr ?_) | (refine is_alloc ?_; refine al ?_) | (refine is_box ?_; refine bx ?_) | (refine isl_load ?_; refine ldl ?_) | (refine isl_store ?_; refine srl ?_) | (refine isl_alloc ?_; refine all' ?_) | (refine isl_box ?_; refine bxl ?_))
        refine go_call rfl rfl (c_rfAt w3 lo r V A c h3 (Or.inr hu)) ?_
        rintro _ w4 ⟨rfl, hx4⟩
        have hloc4 := hloc.ext hx4
        have hl4 := hx4.size
        have hnode : A.nodeOf c = A.node c := by unfold AR.nodeOf; rw [if_pos hu]
        rw [hnode]
        obtain ⟨Y, hY⟩ : ∃ Y, A.node c = Y := ⟨_, rfl⟩
        have hM2 : M.cells = [.int .i64 N.key, .int .i64 N.val, .int .u32 (N.left : Int), .int .u32 (N.right : Int), .int .i64 (IntKind.i64.wrap (N.size + Y.size)), .int .i64 (IntKind.i64.wrap (N.sum + Y.sum)),
              .int .i64 (if Y.mn < N.mn then Y.mn else N.mn), .int .i64 (if Y.mx > N.mx then Y.mx else N.mx)] := by
          rw [min_if, max_if, hsucc, ← hY]
          simp [addC, hc0, Nd.cells, w64]
        rw [hY]
        unfold Nd.cells
        have hnb : w2.heap.size ≠ w4.heap.size := by omega
        repeat (first | refine sp ?_ | (refine is_load ?_; refine ld ?_) | (refine is_store ?_; refine sr ?_) | (refine is_alloc ?_; refine al ?_) | (refine is_box ?_; refine bx ?_) | (refine isl_load ?_; refine ldl ?_) | (refine isl_store ?_; refine srl ?_) | (refine isl_alloc ?_; refine all' ?_) | (refine isl_box ?_; refine bxl ?_))
        refine go_name (F := fun w5 => At w5 w2.heap.size [.int .i64 N.key, .int .i64 N.val, .int .u32 (N.left : Int), .int .u32 (N.right : Int), .int .i64 N.size, .int .i64 N.sum, .int .i64 N.mn, .int .i64 N.mx] 50 ∧ At w5 w4.heap.size [.int .i64 Y.key, .int .i64 Y.val, .int .u32 (Y.left : Int), .int .u32 (Y.right : Int), .int .i64 Y.size, .int .i64 Y.sum, .int .i64 Y.mn, .int .i64 Y.mx] 50 ∧ Ext w4 w5) ⟨by (repeat (first | assumption | (refine At.new' (by (first | omega | (simp; done) | (simp; omega))) _ _) | apply At.alloc | apply At.drewN | apply At.setRow | (apply At.setRow_neF; first | assumption | (apply Ne.symm; assumption) | omega) | (apply At.extF; assumption))), by (repeat (first | assumption | (refine At.new' (by (first | omega | (simp; done) | (simp; omega))) _ _) | apply At.alloc | apply At.drewN | apply At.setRow | (apply At.setRow_neF; first | assumption | (apply Ne.symm; assumption) | omega) | (apply At.extF; assumption))), by (repeat (first | exact Fr.refl _ _ | assumption | apply Fr.drewN | apply Fr.alloc | (apply Fr.transF; assumption) | (refine Fr.setRow ?_ _ (by first | exact Or.inr (by (first | omega | (simp; done) | (simp; omega))) | (exact Or.inl (by first | assumption | (simp; done)))))))⟩ ?_
        rintro w5 ⟨hloc5, hy5, hx5⟩
        refine go_drawX (Fr (fun _ => False) w5) 3 (Fr (fun b => b = w2.heap.size) w5) Try.follows (by kernel_rfl) (by kernel_rfl) (by kernel_rfl) ((Fr.refl _ _).drewN 1) ((Fr.refl _ _).drewN 1) ?_
        refine sp ?_; refine isl_load ?_; refine ldl ?_; refine sp ?_; refine isl_load ?_; refine ldl ?_; refine sp ?_; refine sp ?_; refine isl_load ?_; refine ldl ?_; refine sp ?_
        refine gol_loadE (v := .int .i64 Y.sum) rfl rfl (ldD_of fun w' f => ld_cell ((At.fr hy5 f (by omega)).cell (i := 0 + 5) rfl)) ?_
        repeat (first | refine sp ?_ | (refine is_load ?_; refine ld ?_) | (refine is_store ?_; refine sr ?_) | (refine is_alloc ?_; refine al ?_) | (refine is_box ?_; refine bx ?_) | (refine isl_load ?_; refine ldl ?_) | (refine isl_store ?_; refine srl ?_) | (refine isl_alloc ?_; refine all' ?_) | (refine isl_box ?_; refine bxl ?_))
        refine go_name (F := fun w6 => At w6 w2.heap.size [.int .i64 N.key, .int .i64 N.val, .int .u32 (N.left : Int), .int .u32 (N.right : Int), .int .i64 (IntKind.i64.wrap (N.size + Y.size)), .int .i64 (IntKind.i64.wrap (N.sum + Y.sum)), .int .i64 N.mn, .int .i64 N.mx] 50 ∧ At w6 w4.heap.size [.int .i64 Y.key, .int .i64 Y.val, .int .u32 (Y.left : Int), .int .u32 (Y.right : Int), .int .i64 Y.size, .int .i64 Y.sum, .int .i64 Y.mn, .int .i64 Y.mx] 50 ∧ Fr (fun b => b = w2.heap.size) w5 w6) ⟨by (repeat (first | assumption | (refine At.new' (by (first | omega | (simp; done) | (simp; omega))) _ _) | apply At.alloc | apply At.drewN | apply At.setRow | (apply At.setRow_neF; first | assumption | (apply Ne.symm; assumption) | omega) | (apply At.extF; assumption))), by (repeat (first | assumption | (refine At.new' (by (first | omega | (simp; done) | (simp; omega))) _ _) | apply At.alloc | apply At.drewN | apply At.setRow | (apply At.setRow_neF; first | assumption | (apply Ne.symm; assumption) | omega) | (apply At.extF; assumption))), by (repeat (first | exact Fr.refl _ _ | assumption | apply Fr.drewN | apply Fr.alloc | (apply Fr.transF; assumption) | (refine Fr.setRow ?_ _ (by first | exact Or.inr (by (first | omega | (simp; done) | (simp; omega))) | (exact Or.inl (by first | assumption | (simp; done)))))))⟩ ?_
        rintro w6 ⟨hloc6, hy6, hf6⟩
        refine go_drawX (Fr (fun _ => False) w6) 3 (Fr (fun b => b = w2.heap.size) w6) Try.follows (by kernel_rfl) (by kernel_rfl) (by kernel_rfl) ((Fr.refl _ _).drewN 1) ((Fr.refl _ _).drewN 1) ?_
        refine sp ?_; refine isl_load ?_; refine ldl ?_; refine sp ?_; refine isl_load ?_; refine ldl ?_; refine sp ?_; refine sp ?_; refine isl_load ?_; refine ldl ?_; refine sp ?_
        refine gol_loadE (v := .int .i64 Y.mx) rfl rfl (ldD_of fun w' f => ld_cell ((At.fr hy6 f (by omega)).cell (i := 0 + 7) rfl)) ?_
        repeat (first | refine sp ?_ | (refine is_load ?_; refine ld ?_) | (refine is_store ?_; refine sr ?_) | (refine is_alloc ?_; refine al ?_) | (refine is_box ?_; refine bx ?_) | (refine isl_load ?_; refine ldl ?_) | (refine isl_store ?_; refine srl ?_) | (refine isl_alloc ?_; refine all' ?_) | (refine isl_box ?_; refine bxl ?_))
        refine go_stop (G := Nat) 1 rfl ⟨rfl, rfl, rfl, rfl, trivial⟩ ⟨by omega, ?_, ?_⟩ (by show 2 - _ < 2 - _; omega)
        · rw [hM]
          show At _ w2.heap.size M.cells _
          rw [hM2]
          (repeat (first | assumption | (refine At.new' (by (first | omega | (simp; done) | (simp; omega))) _ _) | apply At.alloc | apply At.drewN | apply At.setRow | (apply At.setRow_neF; first | assumption | (apply Ne.symm; assumption) | omega) | (apply At.extF; assumption)))
        · have hX : Ext w w6 := ((hx3.trans hx4).trans hx5).trans' hf6 fun b hb e => by omega
          (repeat (first | exact Fr.refl _ _ | assumption | apply Fr.drewN | apply Fr.alloc | (apply Fr.transF; assumption) | (refine Fr.setRow ?_ _ (by first | exact Or.inr (by (first | omega | (simp; done) | (simp; omega))) | (exact Or.inl (by first | assumption | (simp; done)))))))
    · obtain ⟨c, rfl⟩ : ∃ c, c = rr := ⟨_, rfl⟩
      have hokc := hokr
      have hsucc : mkS A k v l c 2 = addC A c (mkS A k v l c 1) := rfl
      obtain ⟨N, hN⟩ : ∃ N, mkS A k v l c 1 = N := ⟨_, rfl⟩
      obtain ⟨M, hM⟩ : ∃ M, mkS A k v l c 2 = M := ⟨_, rfl⟩
      skip
      rw [hN] at hloc hsucc
      rw [hM] at hsucc
      unfold Nd.cells at hloc
      have hl3 := hloc.lt
      by_cases hc0 : c = 0
      · subst hc0
        have e : N = M := by rw [hsucc]; rfl
        repeat (first | refine sp ?_ | (refine is_load ?_; refine ld ?_) | (refine is_store ?_; refine sr ?_) | (refine is_alloc ?_; refine al ?_) | (refine is_box ?_; refine bx ?_) | (refine isl_load ?_; refine ldl ?_) | (refine isl_store ?_; refine srl ?_) | (refine isl_alloc ?_; refine all' ?_) | (refine isl_box ?_; refine bxl ?_))
        refine go_stop (G := Nat) 2 rfl ⟨rfl, rfl, rfl, rfl, trivial⟩ ⟨by omega, ?_, hx3⟩ (by show 2 - _ < 2 - _; omega)
        rw [hM, ← e]; exact hloc
      · have hu : A.used c = true := hokc.resolve_left hc0
        repeat (first | refine sp ?_ | (refine is_load ?_; refine ld ?_) | (refine is_store ?_; refine sr ?_) | (refine is_alloc ?_; refine al ?_) | (refine is_box ?_; refine bx ?_) | (refine isl_load ?_; refine ldl ?_) | (refine isl_store ?_; refine srl ?_) | (refine isl_alloc ?_; refine all' ?_) | (refine isl_box ?_; refine bxl ?_))
        refine go_call rfl rfl (c_rfAt w3 lo r V A c h3 (Or.inr hu)) ?_
        rintro _ w4 ⟨rfl, hx4⟩
        have hloc4 := hloc.ext hx4
        have hl4 := hx4.size
        have hnode : A.nodeOf c = A.node c := by unfold AR.nodeOf; rw [if_pos hu]
        rw [hnode]
        obtain ⟨Y, hY⟩ : ∃ Y, A.node c = Y := ⟨_, rfl⟩
        have hM2 : M.cells = [.int .i64 N.key, .int .i64 N.val, .int .u32 (N.left : Int), .int .u32 (N.right : Int), .int .i64 (IntKind.i64.wrap (N.size + Y.size)), .int .i64 (IntKind.i64.wrap (N.sum + Y.sum)),
              .int .i64 (if Y.mn < N.mn then Y.mn else N.mn), .int .i64 (if Y.mx > N.mx then Y.mx else N.mx)] := by
          rw [min_if, max_if, hsucc, ← hY]
          simp [addC, hc0, Nd.cells, w64]
        rw [hY]
        unfold Nd.cells
        have hnb : w2.heap.size ≠ w4.heap.size := by omega
        repeat (first | refine sp ?_ | (refine is_load ?_; refine ld ?_) | (refine is_store ?_; refine sr ?_) | (refine is_alloc ?_; refine al ?_) | (refine is_box ?_; refine bx ?_) | (refine isl_load ?_; refine ldl ?_) | (refine isl_store ?_; refine srl ?_) | (refine isl_alloc ?_; refine all' ?_) | (refine isl_box ?_; refine bxl ?_))
        refine go_name (F := fun w5 => At w5 w2.heap.size [.int .i64 N.key, .int .i64 N.val, .int .u32 (N.left : Int), .int .u32 (N.right : Int), .int .i64 N.size, .int .i64 N.sum, .int .i64 N.mn, .int .i64 N.mx] 50 ∧ At w5 w4.heap.size [.int .i64 Y.key, .int .i64 Y.val, .int .u32 (Y.left : Int), .int .u32 (Y.right : Int), .int .i64 Y.size, .int .i64 Y.sum, .int .i64 Y.mn, .int .i64 Y.mx] 50 ∧ Ext w4 w5) ⟨by (repeat (first | assumption | (refine At.new' (by (first | omega | (simp; done) | (simp; omega))) _ _) | apply At.alloc | apply At.drewN | apply At.setRow | (apply At.setRow_neF; first | assumption | (apply Ne.symm; assumption) | omega) | (apply At.extF; assumption))), by (repeat (first | assumption | (refine At.new' (by (first | omega | (simp; done) | (simp; omega))) _ _) | apply At.alloc | apply At.drewN | apply At.setRow | (apply At.setRow_neF; first | assumption | (apply Ne.symm; assumption) | omega) | (apply At.extF; assumption))), by (repeat (first | exact Fr.refl _ _ | assumption | apply Fr.drewN | apply Fr.alloc | (apply Fr.transF; assumption) | (refine Fr.setRow ?_ _ (by first | exact Or.inr (by (first | omega | (simp; done) | (simp; omega))) | (exact Or.inl (by first | assumption | (simp; done)))))))⟩ ?_
        rintro w5 ⟨hloc5, hy5, hx5⟩
        refine go_drawX (Fr (fun _ => False) w5) 3 (Fr (fun b => b = w2.heap.size) w5) Try.follows (by kernel_rfl) (by kernel_rfl) (by kernel_rfl) ((Fr.refl _ _).drewN 1) ((Fr.refl _ _).drewN 1) ?_
        refine sp ?_; refine isl_load ?_; refine ldl ?_; refine sp ?_; refine isl_load ?_; refine ldl ?_; refine sp ?_; refine sp ?_; refine isl_load ?_; refine ldl ?_; refine sp ?_
        refine gol_loadE (v := .int .i64 Y.sum) rfl rfl (ldD_of fun w' f => ld_cell ((At.fr hy5 f (by omega)).cell (i := 0 + 5) rfl)) ?_
        repeat (first | refine sp ?_ | (refine is_load ?_; refine ld ?_) | (refine is_store ?_; refine sr ?_) | (refine is_alloc ?_; refine al ?_) | (refine is_box ?_; refine bx ?_) | (refine isl_load ?_; refine ldl ?_) | (refine isl_store ?_; refine srl ?_) | (refine isl_alloc ?_; refine all' ?_) | (refine isl_box ?_; refine bxl ?_))
        refine go_name (F := fun w6 => At w6 w2.heap.size [.int .i64 N.key, .int .i64 N.val, .int .u32 (N.left : Int), .int .u32 (N.right : Int), .int .i64 (IntKind.i64.wrap (N.size + Y.size)), .int .i64 (IntKind.i64.wrap (N.sum + Y.sum)), .int .i64 N.mn, .int .i64 N.mx] 50 ∧ At w6 w4.heap.size [.int .i64 Y.key, .int .i64 Y.val, .int .u32 (Y.left : Int), .int .u32 (Y.right : Int), .int .i64 Y.size, .int .i64 Y.sum, .int .i64 Y.mn, .int .i64 Y.mx] 50 ∧ Fr (fun b => b = w2.heap.size) w5 w6) ⟨by (repeat (first | assumption | (refine At.new' (by (first | omega | (simp; done) | (simp; omega))) _ _) | apply At.alloc | apply At.drewN | apply At.setRow | (apply At.setRow_neF; first | assumption | (apply Ne.symm; assumption) | omega) | (apply At.extF; assumption))), by (repeat (first | assumption | (refine At.new' (by (first | omega | (simp; done) | (simp; omega))) _ _) | apply At.alloc | apply At.drewN | apply At.setRow | (apply At.setRow_neF; first | assumption | (apply Ne.symm; assumption) | omega) | (apply At.extF; assumption))), by (repeat (first | exact Fr.refl _ _ | assumption | apply Fr.drewN | apply Fr.alloc | (apply Fr.transF; assumption) | (refine Fr.setRow ?_ _ (by first | exact Or.inr (by (first | omega | (simp; done) | (simp; omega))) | (exact Or.inl (by first | assumption | (simp; done)))))))⟩ ?_
        rintro w6 ⟨hloc6, hy6, hf6⟩
        refine go_drawX (Fr (fun _ => False) w6) 3 (Fr (fun b => b = w2.heap.size) w6) Try.follows (by kernel_rfl) (by kernel_rfl) (by kernel_rfl) ((Fr.refl _ _).drewN 1) ((Fr.refl _ _).drewN 1) ?_
        refine sp ?_; refine isl_load ?_; refine ldl ?_; refine sp ?_; refine isl_load ?_; refine ldl ?_; refine sp ?_; refine sp ?_; refine isl_load ?_; refine ldl ?_; refine sp ?_
        refine gol_loadE (v := .int .i64 Y.mx) rfl rfl (ldD_of fun w' f => ld_cell ((At.fr hy6 f (by omega)).cell (i := 0 + 7) rfl)) ?_
        repeat (first | refine sp ?_ | (refine is_load ?_; refine ld ?_) | (refine is_store ?_; refine sr ?_) | (refine is_alloc ?_; refine al ?_) | (refine is_box ?_; refine bx ?_) | (refine isl_load ?_; refine ldl ?_) | (refine isl_store ?_; refine srl ?_) | (refine isl_alloc ?_; refine all' ?_) | (refine isl_box ?_; refine bxl ?_))
        refine go_stop (G := Nat) 2 rfl ⟨rfl, rfl, rfl, rfl, trivial⟩ ⟨by omega, ?_, ?_⟩ (by show 2 - _ < 2 - _; omega)
        · rw [hM]
          show At _ w2.heap.size M.cells _
          rw [hM2]
          (repeat (first | assumption | (refine At.new' (by (first | omega | (simp; done) | (simp; omega))) _ _) | apply At.alloc | apply At.drewN | apply At.setRow | (apply At.setRow_neF; first | assumption | (apply Ne.symm; assumption) | omega) | (apply At.extF; assumption)))
        · have hX : Ext w w6 := ((hx3.trans hx4).trans hx5).trans' hf6 fun b hb e => by omega
          (repeat (first | exact Fr.refl _ _ | assumption | apply Fr.drewN | apply Fr.alloc | (apply Fr.transF; assumption) | (refine Fr.setRow ?_ _ (by first | exact Or.inr (by (first | omega | (simp; done) | (simp; omega))) | (exact Or.inl (by first | assumption | (simp; done)))))))
  obtain rfl : j = 2 := by omega
  have hmk : mkS A k v l rr 2 = mkN A k v l rr := rfl
  rw [hmk] at hloc
  have hM : A.makeE k v l rr = if 2147483647 < (mkN A k v l rr).size then 1 else if A.free = 0 then 2 else 0 := by
    unfold AR.makeE
    have n1 : ¬ (l ≠ 0 ∧ A.used l = false) := by
      rintro ⟨a, b⟩; rcases hokl with h | h
      · exact a h
      · rw [h] at b; cases b
    have n2 : ¬ (rr ≠ 0 ∧ A.used rr = false) := by
      rintro ⟨a, b⟩; rcases hokr with h | h
      · exact a h
      · rw [h] at b; cases b
    by_cases hs : 2147483647 < (mkN A k v l rr).size
    · rw [if_pos (Or.inr (Or.inr hs)), if_pos hs]
    · rw [if_neg (by rintro (h | h | h) <;> contradiction), if_neg hs]
  have hmakeX : A.makeE k v l rr = 0 → A.make k v l rr = ((A.put (mkN A k v l rr)).inc l).inc rr := fun e => by unfold AR.make; rw [e]; rfl
  generalize mkN A k v l rr = N at *
  unfold Nd.cells at hloc
  have hnbl := hloc.lt
  have hl3 := hx3.size
  by_cases hs : 2147483647 < N.size
  · have e1 : A.makeE k v l rr = 1 := by rw [hM, if_pos hs]
    have e2 : A.makeI k v l rr = 0 := by unfold AR.makeI; rw [e1]; rfl
    have e3 : A.make k v l rr = A := by unfold AR.make; rw [e1]; rfl
    rw [e1, e2, e3]
    repeat (first | refine sp ?_ | (refine is_load ?_; refine ld ?_) | (refine is_store ?_; refine sr ?_) | (refine is_alloc ?_; refine al ?_) | (refine is_box ?_; refine bx ?_) | (refine isl_load ?_; refine ldl ?_) | (refine isl_store ?_; refine srl ?_) | (refine isl_alloc ?_; refine all' ?_) | (refine isl_box ?_; refine bxl ?_))
    exact go_ret2 rfl rfl rfl ⟨_, rfl, rfl, V, h3, RGr.ext hx3⟩
  rw [if_neg hs] at hM
  obtain ⟨sa, ca, es, _⟩ := h3.hs
  obtain ⟨ga, gc, eg, _⟩ := h3.hg
  obtain ⟨oa, oc, eo, _⟩ := h3.ho
  by_cases hf : A.free = 0
  · have e1 : A.makeE k v l rr = 2 := by rw [hM, if_pos hf]
    have e2 : A.makeI k v l rr = 0 := by unfold AR.makeI; rw [e1]; rfl
    have e3 : A.make k v l rr = A := by unfold AR.make; rw [e1]; rfl
    rw [e1, e2, e3]
    have hcall := c_rsAllocF w3 lo V A h3.hs h3.hg h3.ho h3.wf hf
    unfold rsC at hcall
    rw [es, eg, eo] at hcall hr3
    repeat (first | refine sp ?_ | (refine is_load ?_; refine ld ?_) | (refine is_store ?_; refine sr ?_) | (refine is_alloc ?_; refine al ?_) | (refine is_box ?_; refine bx ?_) | (refine isl_load ?_; refine ldl ?_) | (refine isl_store ?_; refine srl ?_) | (refine isl_alloc ?_; refine all' ?_) | (refine isl_box ?_; refine bxl ?_))
    refine go_call rfl rfl hcall ?_
    rintro _ w4 ⟨rfl, hx4⟩
    have hr4 := hr3.ext hx4
    repeat (first | refine sp ?_ | (refine is_load ?_; refine ld ?_) | (refine is_store ?_; refine sr ?_) | (refine is_alloc ?_; refine al ?_) | (refine is_box ?_; refine bx ?_) | (refine isl_load ?_; refine ldl ?_) | (refine isl_store ?_; refine srl ?_) | (refine isl_alloc ?_; refine all' ?_) | (refine isl_box ?_; refine bxl ?_))
    exact go_ret2 rfl rfl rfl ⟨_, rfl, rfl, V, h3.ext (hx4.trans (by (repeat (first | exact Fr.refl _ _ | assumption | apply Fr.drewN | apply Fr.alloc | (apply Fr.transF; assumption) | (refine Fr.setRow ?_ _ (by first | exact Or.inr (by (first | omega | (simp; done) | (simp; omega))) | (exact Or.inl (by first | assumption | (simp; done))))))))), RGr.ext ((hx3.trans hx4).trans (by (repeat (first | exact Fr.refl _ _ | assumption | apply Fr.drewN | apply Fr.alloc | (apply Fr.transF; assumption) | (refine Fr.setRow ?_ _ (by first | exact Or.inr (by (first | omega | (simp; done) | (simp; omega))) | (exact Or.inl (by first | assumption | (simp; done)))))))))⟩
  have e1 : A.makeE k v l rr = 0 := by rw [hM, if_neg hf]
  have e2 : A.makeI k v l rr = A.top := by unfold AR.makeI; rw [e1]; rfl
  rw [e1, e2, hmakeX e1]
  obtain ⟨t1, t2, t3⟩ := h.wf.top_bd hf
  obtain ⟨kk, htk⟩ : ∃ kk, kk + 1 = A.top := ⟨A.top - 1, by omega⟩
  have hcall := c_rsAlloc w3 lo V A h3.hs h3.hg h3.ho (fun b hb => h3.bl b (Or.inl hb)) h3.wf hf (by omega)
  unfold rsC at hcall
  rw [es, eg, eo] at hcall hr3
  repeat (first | refine sp ?_ | (refine is_load ?_; refine ld ?_) | (refine is_store ?_; refine sr ?_) | (refine is_alloc ?_; refine al ?_) | (refine is_box ?_; refine bx ?_) | (refine isl_load ?_; refine ldl ?_) | (refine isl_store ?_; refine srl ?_) | (refine isl_alloc ?_; refine all' ?_) | (refine isl_box ?_; refine bxl ?_))
  refine go_call rfl rfl hcall ?_
  rintro _ w4 ⟨sv, gv, ov, rfl, N4⟩
  obtain ⟨sa4, ca4, es4, _⟩ := N4.s
  obtain ⟨ga4, gc4, eg4, _⟩ := N4.g
  obtain ⟨oa4, oc4, eo4, _⟩ := N4.o
  subst es4
  subst eg4
  subst eo4
  have hloc4 := hloc.ext N4.x
  have hr4 := hr3.ext N4.x
  have hl4 := N4.x.size
  obtain ⟨V4, hV4⟩ : ∃ V4 : RV, V4 = ⟨V.nb, V.cb, .slice sa4 A.take.rel.length ca4, .slice ga4 A.take.gens.length gc4, .slice oa4 A.take.ons.length oc4⟩ := ⟨_, rfl⟩
  have hbl4 : ∀ b, (V4.sv.ownBlock = some b ∨ V4.gv.ownBlock = some b ∨ V4.ov.ownBlock = some b) → (V.sv.ownBlock = some b ∨ V.gv.ownBlock = some b ∨ V.ov.ownBlock = some b) ∨ w3.heap.size ≤ b := by
    rw [hV4]; exact N4.bl
  have hlt4 : ∀ b, (V4.sv.ownBlock = some b ∨ V4.gv.ownBlock = some b ∨ V4.ov.ownBlock = some b) → b < w4.heap.size := by
    rw [hV4]; exact N4.lt
  have hap4 : ∀ b, (V4.sv.ownBlock = some b ∨ V4.gv.ownBlock = some b ∨ V4.ov.ownBlock = some b) → b ≠ r ∧ b ≠ V.nb ∧ b ≠ V.cb := fun b hb => by
    rcases hbl4 b hb with e | e
    · exact h3.ap b e
    · exact ⟨by omega, by omega, by omega⟩
  repeat (first | refine sp ?_ | (refine is_load ?_; refine ld ?_) | (refine is_store ?_; refine sr ?_) | (refine is_alloc ?_; refine al ?_) | (refine is_box ?_; refine bx ?_) | (refine isl_load ?_; refine ldl ?_) | (refine isl_store ?_; refine srl ?_) | (refine isl_alloc ?_; refine all' ?_) | (refine isl_box ?_; refine bxl ?_))
  refine go_name (F := fun w6 => RfAt w6 lo r V4 A.take ∧ At w6 w2.heap.size [.int .i64 N.key, .int .i64 N.val, .int .u32 (N.left : Int), .int .u32 (N.right : Int), .int .i64 N.size, .int .i64 N.sum, .int .i64 N.mn, .int .i64 N.mx] 50 ∧ Fr (fun b => b = r) w4 w6) ⟨?_, ?_, by (repeat (first | exact Fr.refl _ _ | assumption | apply Fr.drewN | apply Fr.alloc | (apply Fr.transF; assumption) | (refine Fr.setRow ?_ _ (by first | exact Or.inr (by (first | omega | (simp; done) | (simp; omega))) | (exact Or.inl (by first | assumption | (simp; done)))))))⟩ ?_
  · subst hV4
    refine RfAt.put (V := V) (A := A) (h3.ext (N4.x.trans (by (repeat (first | exact Fr.refl _ _ | assumption | apply Fr.drewN | apply Fr.alloc | (apply Fr.transF; assumption) | (refine Fr.setRow ?_ _ (by first | exact Or.inr (by (first | omega | (simp; done) | (simp; omega))) | (exact Or.inl (by first | assumption | (simp; done)))))))))) rfl rfl rfl rfl rfl (N4.s.ext (by (repeat (first | exact Fr.refl _ _ | assumption | apply Fr.drewN | apply Fr.alloc | (apply Fr.transF; assumption) | (refine Fr.setRow ?_ _ (by first | exact Or.inr (by (first | omega | (simp; done) | (simp; omega))) | (exact Or.inl (by first | assumption | (simp; done))))))))) (N4.g.ext (by (repeat (first | exact Fr.refl _ _ | assumption | apply Fr.drewN | apply Fr.alloc | (apply Fr.transF; assumption) | (refine Fr.setRow ?_ _ (by first | exact Or.inr (by (first | omega | (simp; done) | (simp; omega))) | (exact Or.inl (by first | assumption | (simp; done))))))))) (N4.o.ext (by (repeat (first | exact Fr.refl _ _ | assumption | apply Fr.drewN | apply Fr.alloc | (apply Fr.transF; assumption) | (refine Fr.setRow ?_ _ (by first | exact Or.inr (by (first | omega | (simp; done) | (simp; omega))) | (exact Or.inl (by first | assumption | (simp; done))))))))) hap4 (fun b hb => Nat.lt_of_lt_of_le (hlt4 b hb) ?_) (h3.wf.take hf)
    first | (simp; done) | (simp; omega)
  · (repeat (first | assumption | (refine At.new' (by (first | omega | (simp; done) | (simp; omega))) _ _) | apply At.alloc | apply At.drewN | apply At.setRow | (apply At.setRow_neF; first | assumption | (apply Ne.symm; assumption) | omega) | (apply At.extF; assumption)))
  rintro w6 ⟨h6, hx6, hf6⟩
  have hl6 := hf6.size
  have a1 : V4.nb = V.nb := by rw [hV4]
  have a2 : V4.cb = V.cb := by rw [hV4]
  have hF6 : Fr (fun b => b = r ∨ b = V.nb ∨ b = V.cb) w w6 := ((hx3.trans N4.x).mono fun _ e => e.elim).trans (hf6.mono fun b e => Or.inl e)
  have G6 : RGr r V V4 w w6 := ⟨fun b hb => by
    rcases hb with e | e | e | e
    · exact Or.inl (Or.inl e)
    · exact Or.inl (Or.inr (Or.inl (by rw [a1] at e; exact e)))
    · exact Or.inl (Or.inr (Or.inr (Or.inl (by rw [a2] at e; exact e))))
    · rcases hbl4 b e with e | e
      · exact Or.inl (Or.inr (Or.inr (Or.inr e)))
      · right; omega, hF6, a1, a2⟩
  have hr6 := h6.hr
  unfold rfC at hr6
  rw [show A.take.cap = A.cap from rfl] at hr6
  have hn6 := h6.hn
  rw [show A.take.cap = A.cap from rfl] at hn6
  have hc6 := h6.hc
  rw [show A.take.cap = A.cap from rfl] at hc6
  refine go_drawE (Fr (fun _ => False) w6) 3 Try.follows (by kernel_rfl) (by kernel_rfl) (by kernel_rfl) ((Fr.refl _ _).drewN 1) ?_
  repeat (first | refine sp ?_ | (refine is_load ?_; refine ld ?_) | (refine is_store ?_; refine sr ?_) | (refine is_alloc ?_; refine al ?_) | (refine is_box ?_; refine bx ?_) | (refine isl_load ?_; refine ldl ?_) | (refine isl_store ?_; refine srl ?_) | (refine isl_alloc ?_; refine all' ?_) | (refine isl_box ?_; refine bxl ?_))
  refine go_as 98 (u' := .int .u32 (kk : Int)) rfl (by congr 1; omega) ?_
  refine go_as 104 (u' := .int .u32 (kk : Int)) rfl (by congr 1; omega) ?_
  repeat (first | refine sp ?_ | (refine is_load ?_; refine ld ?_) | (refine is_store ?_; refine sr ?_) | (refine is_alloc ?_; refine al ?_) | (refine is_box ?_; refine bx ?_) | (refine isl_load ?_; refine ldl ?_) | (refine isl_store ?_; refine srl ?_) | (refine isl_alloc ?_; refine all' ?_) | (refine isl_box ?_; refine bxl ?_))
  refine gol_store rfl rfl (st_agg (m := 8) (l := N.cells) (hn6.drewN 1) rfl (by decide) (by rw [cellsF_len (m := 8) (fun _ => rfl), nd_len]; omega) (nd_one N)) trivial ?_
  have hns := node_set (A := A.take) (x := N) (show kk < A.cap by omega)
  rw [show A.take.cap = A.cap from rfl] at hns
  rw [hns]
  repeat (first | refine sp ?_ | (refine is_load ?_; refine ld ?_) | (refine is_store ?_; refine sr ?_) | (refine is_alloc ?_; refine al ?_) | (refine is_box ?_; refine bx ?_) | (refine isl_load ?_; refine ldl ?_) | (refine isl_store ?_; refine srl ?_) | (refine isl_alloc ?_; refine all' ?_) | (refine isl_box ?_; refine bxl ?_))
  have hput : ∃ A5 : AR, A5 = { A.take with node := upd A.take.node (kk + 1) N } ∧ A.put N = { A5 with cnt := upd A5.cnt (kk + 1) 1 } := ⟨_, rfl, by unfold AR.put; rw [← htk]; rfl⟩
  obtain ⟨A5, hA5, hP⟩ := hput
  have hpu : ∀ c, c = 0 ∨ A.used c = true → c = 0 ∨ (A.put N).used c = true := fun c hc => hc.imp id fun hu => by
    show upd A.used A.top true c = true
    unfold upd; split
    · rfl
    · exact hu
  have h6d := h6.ext (show Ext w6 (w6.drewN 1) from (Fr.refl _ _).drewN 1)
  refine go_name (F := fun w7 => RfAt w7 lo r V4 (A.put N) ∧ Fr (fun b => b = V4.nb ∨ b = V4.cb) w6 w7) ⟨by subst hA5; exact (h6d.nodeW (show kk < A.cap by omega) N _ rfl).cntW (show kk < A.cap by omega) 1 _ hP, by (repeat (first | exact Fr.refl _ _ | assumption | apply Fr.drewN | apply Fr.alloc | (apply Fr.transF; assumption) | (refine Fr.setRow ?_ _ (by first | exact Or.inr (by (first | omega | (simp; done) | (simp; omega))) | (exact Or.inl (by first | assumption | (simp; done)))))))⟩ ?_
  rintro w7 ⟨h7, hf7⟩
  have hl7 := hf7.size
  refine go_call rfl rfl (c_rfRetain w7 lo r V4 (A.put N) l h7 hl) ?_
  rintro _ w8 ⟨rfl, h8, hf8⟩
  repeat (first | refine sp ?_ | (refine is_load ?_; refine ld ?_) | (refine is_store ?_; refine sr ?_) | (refine is_alloc ?_; refine al ?_) | (refine is_box ?_; refine bx ?_) | (refine isl_load ?_; refine ldl ?_) | (refine isl_store ?_; refine srl ?_) | (refine isl_alloc ?_; refine all' ?_) | (refine isl_box ?_; refine bxl ?_))
  refine go_call rfl rfl (c_rfRetain w8 lo r V4 ((A.put N).retain l) rr h8 hrr) ?_
  rintro _ w9 ⟨rfl, h9, hf9⟩
  repeat (first | refine sp ?_ | (refine is_load ?_; refine ld ?_) | (refine is_store ?_; refine sr ?_) | (refine is_alloc ?_; refine al ?_) | (refine is_box ?_; refine bx ?_) | (refine isl_load ?_; refine ldl ?_) | (refine isl_store ?_; refine srl ?_) | (refine isl_alloc ?_; refine all' ?_) | (refine isl_box ?_; refine bxl ?_))
  have hu2 : rr = 0 ∨ ((A.put N).retain l).used rr = true := by
    rw [show ((A.put N).retain l).used = (A.put N).used by unfold AR.retain; split <;> rfl]
    exact hpu rr hokr
  have hq : Cq (((A.put N).retain l).retain rr) (((A.put N).inc l).inc rr) := (Cq.ret _ hu2).trans ((Cq.ret _ (hpu l hokl)).inc rr)
  refine go_ret2 rfl rfl rfl ⟨_, rfl, rfl, V4, h9.cq hq, G6.trans ⟨fun b hb => Or.inl hb, ?_, rfl, rfl⟩⟩
  exact ((hf7.mono fun b e => Or.inr e).trans (hf8.mono fun b e => Or.inr (Or.inr e))).trans (hf9.mono fun b e => Or.inr (Or.inr e))

theorem c_slot (w : World) (i n : Nat) (hi : i < 4294967296) (hn : n ≤ 12) :
    Calls Try.prog 44 [.int .u32 (i : Int), .int .i64 (n : Int)].toArray w (Ret fun x w' => ∃ j : Nat, x = .int .u32 (j : Int) ∧ j < 4294967296 ∧ w' = w) := by
  refine calls_go Try.func44 rfl Try.ntmps44 (Nat.le_of_ble_eq_true rfl) ?_
  by_cases h : i % 23 = 22
  · repeat (first | refine sp ?_ | (refine is_load ?_; refine ld ?_) | (refine is_store ?_; refine sr ?_) | (refine is_alloc ?_; refine al ?_) | (refine is_box ?_; refine bx ?_) | (refine isl_load ?_; refine ldl ?_) | (refine isl_store ?_; refine srl ?_) | (refine isl_alloc ?_; refine all' ?_) | (refine isl_box ?_; refine bxl ?_))
    exact go_ret1 rfl rfl ⟨_, rfl, i, rfl, hi, rfl⟩
  · have hm : i % (n + 2) < n + 2 := Nat.mod_lt _ (by omega)
    repeat (first | refine sp ?_ | (refine is_load ?_; refine ld ?_) | (refine is_store ?_; refine sr ?_) | (refine is_alloc ?_; refine al ?_) | (refine is_box ?_; refine bx ?_) | (refine isl_load ?_; refine ldl ?_) | (refine isl_store ?_; refine srl ?_) | (refine isl_alloc ?_; refine all' ?_) | (refine isl_box ?_; refine bxl ?_))
    refine go_ret1 rfl rfl ⟨_, rfl, i % (n + 2), ?_, by omega, rfl⟩
    congr 1

end Go.Proofs.Ytapocbahkeoeoaa
