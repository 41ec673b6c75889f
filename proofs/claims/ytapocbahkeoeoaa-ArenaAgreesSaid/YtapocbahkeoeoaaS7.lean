/-
  The program's arena: New, Make.
-/
import Derived.Test.YtapocbahkeoeoaaS6
set_option linter.unusedVariables false
namespace Go.Proofs.Ytapocbahkeoeoaa
open Go.Vc

theorem SlAt.re {w : World} {lo : Nat} {q : AP} {A : AR} (h : SlAt w lo q A) (p nb cb : Nat) : SlAt w lo ⟨p, q.s, nb, cb, q.ub, q.gb, q.rv⟩ A := ⟨h.hs, h.hu, h.hg, h.hr, h.hrg, h.wf⟩

theorem c_New (n : Nat) (w : World) (h1 : 1 ≤ n) (h2 : n ≤ 65536) :
    Calls Try.prog 15 [.int .i64 (n : Int)].toArray w (Ret fun r w' => ∃ q : AP, r = .tuple #[.pointer (some ⟨q.p, 0, none⟩), .int .i64 0] ∧ ArAt w' w.heap.size q (AR.new n) ∧ q.rv = .slice none 0 0 ∧ Ext w w') := by
  refine calls_go Try.func15 rfl Try.ntmps15 (Nat.le_of_ble_eq_true rfl) ?_
  repeat (first | refine sp ?_ | (refine is_load ?_; refine ld ?_) | (refine is_store ?_; refine sr ?_) | (refine is_alloc ?_; refine al ?_) | (refine is_box ?_; refine bx ?_))
  refine go_call rfl rfl (c_slNew n w h1 h2) ?_
  rintro r w1 ⟨q, rfl, hs, hrv, l1, l2, l3, hx⟩
  repeat (first | refine sp ?_ | (refine is_load ?_; refine ld ?_) | (refine is_store ?_; refine sr ?_) | (refine is_alloc ?_; refine al ?_) | (refine is_box ?_; refine bx ?_))
  refine go_sched (fun _ => True) (.op 0 (.op 1 (.op 2 (.op 4 (.op 5 (.alt 3 (.op 6 (.op 7 (.op 8 (.op 9 (.op 10 .fin))))) (.op 6 (.op 3 (.op 7 (.op 8 (.op 9 (.op 10 .fin))))))))))))  Try.follows (by kernel_rfl) (by kernel_rfl) (by kernel_rfl) trivial ?_
  have hsz := hx.size
  repeat (first | refine sp ?_ | (refine is_load ?_; refine ld ?_) | (refine is_store ?_; refine sr ?_) | (refine is_alloc ?_; refine al ?_) | (refine is_box ?_; refine bx ?_) | (refine isl_load ?_; refine ldl ?_) | (refine isl_store ?_; refine srl ?_) | (refine isl_alloc ?_; refine all' ?_) | (refine isl_box ?_; refine bxl ?_) | refine dr Try.follows ?_)
  refine go_alt rfl ?_ ?_
  · refine gol_makeF (c := n + 1) (nb := w1.heap.size) rfl rfl rfl (by omega) (by omega) (by omega) (by unfold maxLen; omega) rfl trivial ?_
    repeat (first | refine sp ?_ | (refine is_load ?_; refine ld ?_) | (refine is_store ?_; refine sr ?_) | (refine is_alloc ?_; refine al ?_) | (refine is_box ?_; refine bx ?_) | (refine isl_load ?_; refine ldl ?_) | (refine isl_store ?_; refine srl ?_) | (refine isl_alloc ?_; refine all' ?_) | (refine isl_box ?_; refine bxl ?_) | refine dr Try.follows ?_)
    refine gol_makeF (c := n + 1) (nb := w1.heap.size + 1) rfl rfl rfl (by omega) (by omega) (by omega) (by unfold maxLen; omega) (by simp) trivial ?_
    repeat (first | refine sp ?_ | (refine is_load ?_; refine ld ?_) | (refine is_store ?_; refine sr ?_) | (refine is_alloc ?_; refine al ?_) | (refine is_box ?_; refine bx ?_) | (refine isl_load ?_; refine ldl ?_) | (refine isl_store ?_; refine srl ?_) | (refine isl_alloc ?_; refine all' ?_) | (refine isl_box ?_; refine bxl ?_) | refine dr Try.follows ?_)
    refine go_ret2 rfl rfl rfl ⟨_, rfl, ⟨w1.heap.size + 2, q.s, w1.heap.size, w1.heap.size + 1, q.ub, q.gb, q.rv⟩, by simp, ⟨?_, ?_, ?_, ?_, NdOk.new, ?_⟩, hrv, ?_⟩
    · show At _ (w1.heap.size + 2) [.pointer (some ⟨q.s, 0, none⟩), .slice (some ⟨w1.heap.size, 0, none⟩) (n + 1) (n + 1), .slice (some ⟨w1.heap.size + 1, 0, none⟩) (n + 1) (n + 1), .int .u64 0] _
      exact At.new' (by simp) _ _
    · show At _ (w1.heap.size) _ _
      (repeat (first | assumption | (refine At.new' (by (first | omega | (simp; done) | (simp; omega))) _ _) | apply At.alloc | apply At.drewN | apply At.setRow | (apply At.setRow_neF; first | assumption | (apply Ne.symm; assumption) | omega) | (apply At.extF; assumption)))
    · show At _ (w1.heap.size + 1) _ _
      (repeat (first | assumption | (refine At.new' (by (first | omega | (simp; done) | (simp; omega))) _ _) | apply At.alloc | apply At.drewN | apply At.setRow | (apply At.setRow_neF; first | assumption | (apply Ne.symm; assumption) | omega) | (apply At.extF; assumption)))
    · exact (hs.re _ _ _).ext (by (repeat (first | exact Fr.refl _ _ | assumption | apply Fr.drewN | apply Fr.alloc | (apply Fr.transF; assumption) | (refine Fr.setRow ?_ _ (by first | exact Or.inr (by (first | omega | (simp; done) | (simp; omega))) | (exact Or.inl (by first | assumption | (simp; done))))))))
    · simp; omega
    · exact (((hx.drewN 1).alloc _).alloc _).alloc _
  · repeat (first | refine sp ?_ | (refine is_load ?_; refine ld ?_) | (refine is_store ?_; refine sr ?_) | (refine is_alloc ?_; refine al ?_) | (refine is_box ?_; refine bx ?_) | (refine isl_load ?_; refine ldl ?_) | (refine isl_store ?_; refine srl ?_) | (refine isl_alloc ?_; refine all' ?_) | (refine isl_box ?_; refine bxl ?_) | refine dr Try.follows ?_)
    refine gol_makeF (c := n + 1) (nb := w1.heap.size) rfl rfl rfl (by omega) (by omega) (by omega) (by unfold maxLen; omega) rfl trivial ?_
    repeat (first | refine sp ?_ | (refine is_load ?_; refine ld ?_) | (refine is_store ?_; refine sr ?_) | (refine is_alloc ?_; refine al ?_) | (refine is_box ?_; refine bx ?_) | (refine isl_load ?_; refine ldl ?_) | (refine isl_store ?_; refine srl ?_) | (refine isl_alloc ?_; refine all' ?_) | (refine isl_box ?_; refine bxl ?_) | refine dr Try.follows ?_)
    refine gol_makeF (c := n + 1) (nb := w1.heap.size + 1) rfl rfl rfl (by omega) (by omega) (by omega) (by unfold maxLen; omega) (by simp) trivial ?_
    repeat (first | refine sp ?_ | (refine is_load ?_; refine ld ?_) | (refine is_store ?_; refine sr ?_) | (refine is_alloc ?_; refine al ?_) | (refine is_box ?_; refine bx ?_) | (refine isl_load ?_; refine ldl ?_) | (refine isl_store ?_; refine srl ?_) | (refine isl_alloc ?_; refine all' ?_) | (refine isl_box ?_; refine bxl ?_) | refine dr Try.follows ?_)
    refine go_ret2 rfl rfl rfl ⟨_, rfl, ⟨w1.heap.size + 2, q.s, w1.heap.size + 1, w1.heap.size, q.ub, q.gb, q.rv⟩, by simp, ⟨?_, ?_, ?_, ?_, NdOk.new, ?_⟩, hrv, ?_⟩
    · show At _ (w1.heap.size + 2) [.pointer (some ⟨q.s, 0, none⟩), .slice (some ⟨w1.heap.size + 1, 0, none⟩) (n + 1) (n + 1), .slice (some ⟨w1.heap.size, 0, none⟩) (n + 1) (n + 1), .int .u64 0] _
      exact At.new' (by simp) _ _
    · show At _ (w1.heap.size + 1) _ _
      (repeat (first | assumption | (refine At.new' (by (first | omega | (simp; done) | (simp; omega))) _ _) | apply At.alloc | apply At.drewN | apply At.setRow | (apply At.setRow_neF; first | assumption | (apply Ne.symm; assumption) | omega) | (apply At.extF; assumption)))
    · show At _ (w1.heap.size) _ _
      (repeat (first | assumption | (refine At.new' (by (first | omega | (simp; done) | (simp; omega))) _ _) | apply At.alloc | apply At.drewN | apply At.setRow | (apply At.setRow_neF; first | assumption | (apply Ne.symm; assumption) | omega) | (apply At.extF; assumption)))
    · exact (hs.re _ _ _).ext (by (repeat (first | exact Fr.refl _ _ | assumption | apply Fr.drewN | apply Fr.alloc | (apply Fr.transF; assumption) | (refine Fr.setRow ?_ _ (by first | exact Or.inr (by (first | omega | (simp; done) | (simp; omega))) | (exact Or.inl (by first | assumption | (simp; done))))))))
    · simp; omega
    · exact (((hx.drewN 1).alloc _).alloc _).alloc _

theorem min_if (a b : Int) : (if b < a then b else a) = min a b := by rw [Int.min_def]; split <;> split <;> omega
theorem max_if (a b : Int) : (if b > a then b else a) = max a b := by rw [Int.max_def]; split <;> split <;> omega

/-- The node with the first 'j' children counted in. -/
def mkS (A : AR) (k v : Int) (l r : Nat) : Nat → Nd
  | 0 => ⟨k, v, l, r, 1, v, v, v⟩
  | 1 => addC A l ⟨k, v, l, r, 1, v, v, v⟩
  | _ => mkN A k v l r

def kid (l r : Nat) : Nat → Nat
  | 0 => l
  | _ => r

theorem mkS_succ (A : AR) (k v : Int) (l r j : Nat) (hj : j < 2) : mkS A k v l r (j + 1) = addC A (kid l r j) (mkS A k v l r j) := by
  obtain rfl | rfl : j = 0 ∨ j = 1 := by omega
  · rfl
  · rfl

theorem addC_lr (A : AR) (c : Nat) (n : Nd) : (addC A c n).left = n.left ∧ (addC A c n).right = n.right ∧ (addC A c n).key = n.key ∧ (addC A c n).val = n.val := by
  unfold addC; split <;> exact ⟨rfl, rfl, rfl, rfl⟩

theorem nd_one (N : Nd) : ∀ v ∈ N.cells, v.oneCell' = true := by
  intro v hv
  simp only [Nd.cells, List.mem_cons, List.not_mem_nil, or_false] at hv
  rcases hv with rfl | rfl | rfl | rfl | rfl | rfl | rfl | rfl <;> rfl

theorem node_splice {f : Nat → Nd} {i n : Nat} {x : Nd} (hi : i < n) : splice (cellsF (fun i => (f i).cells) n) (0 + i * 8) x.cells = cellsF (fun j => ((upd f i x) j).cells) n := by
  rw [Nat.zero_add, cellsF_splice (f := fun i => (f i).cells) (m := 8) (fun _ => rfl) hi rfl]
  refine cellsF_congr fun j _ => ?_
  unfold upd; split <;> rfl

theorem addC_size {A : AR} (h1 : NdOk A) {c : Nat} {n : Nd} (hc : c = 0 ∨ A.used c = true) (hn : 1 ≤ n.size ∧ n.size ≤ 4294967296) : 1 ≤ (addC A c n).size ∧ (addC A c n).size ≤ n.size + 2147483647 := by
  unfold addC
  split
  · omega
  · have h2 : A.used c = true := by rcases hc with h | h; · contradiction
                                    · exact h
    have := h1.sz c h2
    simp only []
    rw [w64_in (by omega)]
    omega

theorem mkN_size {A : AR} (h0 : Wf A) (h1 : NdOk A) {k v : Int} {l r : Nat} (hl : l = 0 ∨ A.used l = true) (hr : r = 0 ∨ A.used r = true) : 1 ≤ (mkN A k v l r).size := by
  unfold mkN
  have a := addC_size h1 (n := ⟨k, v, l, r, 1, v, v, v⟩) hl ⟨by simp, by simp⟩
  simp only [] at a
  exact (addC_size h1 hr ⟨a.1, by omega⟩).1

set_option maxHeartbeats 4000000 in
theorem c_Make (w : World) (lo : Nat) (q : AP) (A : AR) (k v : Int) (l r : Nat) (h : ArAt w lo q A) (hl : l < 4294967296) (hr : r < 4294967296) :
    Calls Try.prog 17 [.pointer (some ⟨q.p, 0, none⟩), .int .i64 k, .int .i64 v, .int .u32 (l : Int), .int .u32 (r : Int)].toArray w (Ret fun x w' =>
      x = .tuple #[.int .u32 (A.makeI k v l r : Int), .int .i64 (A.makeE k v l r)] ∧ ∃ rv, ArAt w' lo { q with rv := rv } (A.make k v l r) ∧ rv.ownBlock = q.rv.ownBlock ∧ Fr q.fp w w') := by
  have hcap := h.sl.wf.capM
  have f1 := h.hn.lt
  have f2 := h.hp.lt
  have f3 := h.hc.lt
  refine calls_go Try.func17 rfl Try.ntmps17 (Nat.le_of_ble_eq_true rfl) ?_
  repeat (first | refine sp ?_ | (refine is_load ?_; refine ld ?_) | (refine is_store ?_; refine sr ?_) | (refine is_alloc ?_; refine al ?_) | (refine is_box ?_; refine bx ?_) | (refine isl_load ?_; refine ldl ?_) | (refine isl_store ?_; refine srl ?_) | (refine isl_alloc ?_; refine all' ?_) | (refine isl_box ?_; refine bxl ?_) | refine go_drawE (Fr (fun _ => False) _) 1 Try.follows (by kernel_rfl) (by kernel_rfl) (by kernel_rfl) ((Fr.refl _ _).drewN 1) ?_)
  refine go_loop (G := Nat) [29] (fun j => [.int .i64 (j : Int)]) [(0, .pointer (some ⟨q.p, 0, none⟩)), (3, .int .u32 (l : Int)), (4, .int .u32 (r : Int)), (10, .int .u32 0), (11, .int .i64 0), (12, .pointer (some ⟨w.heap.size, 0, none⟩)), (28, .agg ⟨[.int .u32 (l : Int), .int .u32 (r : Int)]⟩)]
    (fun j w' => j ≤ 2 ∧ (∀ i, i < j → kid l r i = 0 ∨ A.used (kid l r i) = true) ∧ At w' w.heap.size (mkS A k v l r j).cells 50 ∧ Ext w w') (fun j => 2 - j) 0 rfl ⟨rfl, rfl, rfl, rfl, rfl, rfl, rfl, trivial⟩ ⟨by omega, fun i hi => by omega, ?_, ?_⟩ ?_
  · show At _ w.heap.size (mkS A k v l r 0).cells _
    (repeat (first | assumption | (refine At.new' (by (first | omega | (simp; done) | (simp; omega))) _ _) | apply At.alloc | apply At.drewN | apply At.setRow | (apply At.setRow_neF; first | assumption | (apply Ne.symm; assumption) | omega) | (apply At.extF; assumption)))
  · (repeat (first | exact Fr.refl _ _ | assumption | apply Fr.drewN | apply Fr.alloc | (apply Fr.transF; assumption) | (refine Fr.setRow ?_ _ (by first | exact Or.inr (by (first | omega | (simp; done) | (simp; omega))) | (exact Or.inl (by first | assumption | (simp; done)))))))
  rintro j w1 ⟨hj, hok, hloc, hx⟩
  have h1 := h.ext hx
  have hp1 := h1.hp
  unfold arC at hp1
  by_cases hlt : j < 2
  · obtain ⟨c, hc, hc32⟩ : ∃ c, kid l r j = c ∧ c < 4294967296 := by
      refine ⟨_, rfl, ?_⟩
      obtain rfl | rfl : j = 0 ∨ j = 1 := by omega
      · exact hl
      · exact hr
    have hsucc := mkS_succ A k v l r j hlt
    rw [hc] at hsucc
    generalize mkS A k v l r j = N at *
    unfold Nd.cells at hloc
    have hidx : [Value.int .u32 (l : Int), .int .u32 (r : Int)][j]? = some (.int .u32 (c : Int)) := by
      rw [← hc]
      obtain rfl | rfl : j = 0 ∨ j = 1 := by omega
      · rfl
      · rfl
    repeat (first | refine sp ?_ | (refine is_load ?_; refine ld ?_) | (refine is_store ?_; refine sr ?_) | (refine is_alloc ?_; refine al ?_) | (refine is_box ?_; refine bx ?_) | (refine isl_load ?_; refine ldl ?_) | (refine isl_store ?_; refine srl ?_) | (refine isl_alloc ?_; refine all' ?_) | (refine isl_box ?_; refine bxl ?_) | refine go_drawE (Fr (fun _ => False) _) 1 Try.follows (by kernel_rfl) (by kernel_rfl) (by kernel_rfl) ((Fr.refl _ _).drewN 1) ?_)
    refine go_p rfl (pr_indexV (j := j) rfl rfl rfl (by omega) hidx) ?_
    by_cases hc0 : c = 0
    · subst hc0
      repeat (first | refine sp ?_ | (refine is_load ?_; refine ld ?_) | (refine is_store ?_; refine sr ?_) | (refine is_alloc ?_; refine al ?_) | (refine is_box ?_; refine bx ?_) | (refine isl_load ?_; refine ldl ?_) | (refine isl_store ?_; refine srl ?_) | (refine isl_alloc ?_; refine all' ?_) | (refine isl_box ?_; refine bxl ?_) | refine go_drawE (Fr (fun _ => False) _) 1 Try.follows (by kernel_rfl) (by kernel_rfl) (by kernel_rfl) ((Fr.refl _ _).drewN 1) ?_)
      refine go_stop (G := Nat) (j + 1) rfl ⟨rfl, rfl, rfl, rfl, rfl, rfl, rfl, trivial⟩ ⟨by omega, ?_, ?_, hx⟩ (by show 2 - (j + 1) < 2 - j; omega)
      · intro i hi
        by_cases e : i = j
        · subst e; exact Or.inl hc
        · exact hok i (by omega)
      · rw [hsucc]; exact hloc
    · repeat (first | refine sp ?_ | (refine is_load ?_; refine ld ?_) | (refine is_store ?_; refine sr ?_) | (refine is_alloc ?_; refine al ?_) | (refine is_box ?_; refine bx ?_) | (refine isl_load ?_; refine ldl ?_) | (refine isl_store ?_; refine srl ?_) | (refine isl_alloc ?_; refine all' ?_) | (refine isl_box ?_; refine bxl ?_) | refine go_drawE (Fr (fun _ => False) _) 1 Try.follows (by kernel_rfl) (by kernel_rfl) (by kernel_rfl) ((Fr.refl _ _).drewN 1) ?_)
      refine go_call rfl rfl (c_slAllocated _ lo q A c h1.sl hc32) ?_
      rintro x w2 ⟨rfl, hx2⟩
      have hx2' := hx.trans hx2
      cases hu : A.used c with
      | false =>
        have e1 : A.makeE k v l r = 1 := by
          unfold AR.makeE
          rw [if_pos]
          obtain rfl | rfl : j = 0 ∨ j = 1 := by omega
          · left; exact ⟨by rw [show l = c from hc]; exact hc0, by rw [show l = c from hc]; exact hu⟩
          · right; left; exact ⟨by rw [show r = c from hc]; exact hc0, by rw [show r = c from hc]; exact hu⟩
        have e2 : A.makeI k v l r = 0 := by unfold AR.makeI; rw [e1]; rfl
        have e3 : A.make k v l r = A := by unfold AR.make; rw [e1]; rfl
        rw [e1, e2, e3]
        repeat (first | refine sp ?_ | (refine is_load ?_; refine ld ?_) | (refine is_store ?_; refine sr ?_) | (refine is_alloc ?_; refine al ?_) | (refine is_box ?_; refine bx ?_) | (refine isl_load ?_; refine ldl ?_) | (refine isl_store ?_; refine srl ?_) | (refine isl_alloc ?_; refine all' ?_) | (refine isl_box ?_; refine bxl ?_) | refine go_drawE (Fr (fun _ => False) _) 1 Try.follows (by kernel_rfl) (by kernel_rfl) (by kernel_rfl) ((Fr.refl _ _).drewN 1) ?_)
        exact go_ret2 rfl rfl rfl ⟨_, rfl, rfl, q.rv, h.ext hx2', rfl, Fr.of_ext hx2'⟩
      | true =>
        have hil := used_le h.sl.wf hu
        have h2 := h1.ext hx2
        have hp2 := h2.hp
        unfold arC at hp2
        have hloc2 := hloc.ext hx2
        have hn2 := h2.hn
        have c4 : (cellsF (fun i => (A.node i).cells) (A.cap + 1))[0 + c * 8 + 4]? = some (.int .i64 (A.node c).size) := by rw [Nat.zero_add]; exact cellsF_get (f := fun i => (A.node i).cells) (m := 8) (fun _ => rfl) (by omega) rfl
        have c5 : (cellsF (fun i => (A.node i).cells) (A.cap + 1))[0 + c * 8 + 5]? = some (.int .i64 (A.node c).sum) := by rw [Nat.zero_add]; exact cellsF_get (f := fun i => (A.node i).cells) (m := 8) (fun _ => rfl) (by omega) rfl
        have c6 : (cellsF (fun i => (A.node i).cells) (A.cap + 1))[0 + c * 8 + 6]? = some (.int .i64 (A.node c).mn) := by rw [Nat.zero_add]; exact cellsF_get (f := fun i => (A.node i).cells) (m := 8) (fun _ => rfl) (by omega) rfl
        have c7 : (cellsF (fun i => (A.node i).cells) (A.cap + 1))[0 + c * 8 + 7]? = some (.int .i64 (A.node c).mx) := by rw [Nat.zero_add]; exact cellsF_get (f := fun i => (A.node i).cells) (m := 8) (fun _ => rfl) (by omega) rfl
        repeat (first | refine sp ?_ | (refine is_load ?_; refine ld ?_) | (refine is_store ?_; refine sr ?_) | (refine is_alloc ?_; refine al ?_) | (refine is_box ?_; refine bx ?_) | (refine isl_load ?_; refine ldl ?_) | (refine isl_store ?_; refine srl ?_) | (refine isl_alloc ?_; refine all' ?_) | (refine isl_box ?_; refine bxl ?_) | refine go_drawE (Fr (fun _ => False) _) 1 Try.follows (by kernel_rfl) (by kernel_rfl) (by kernel_rfl) ((Fr.refl _ _).drewN 1) ?_)
        refine go_stop (G := Nat) (j + 1) rfl ⟨rfl, rfl, rfl, rfl, rfl, rfl, rfl, trivial⟩ ⟨by omega, ?_, ?_, ?_⟩ (by show 2 - (j + 1) < 2 - j; omega)
        · intro i hi
          by_cases e : i = j
          · subst e; right; rw [hc]; exact hu
          · exact hok i (by omega)
        · rw [hsucc]
          have e : (addC A c N).cells = [.int .i64 N.key, .int .i64 N.val, .int .u32 (N.left : Int), .int .u32 (N.right : Int), .int .i64 (IntKind.i64.wrap (N.size + (A.node c).size)), .int .i64 (IntKind.i64.wrap (N.sum + (A.node c).sum)),
              .int .i64 (if (A.node c).mn < N.mn then (A.node c).mn else N.mn), .int .i64 (if (A.node c).mx > N.mx then (A.node c).mx else N.mx)] := by
            rw [min_if, max_if]
            simp [addC, hc0, Nd.cells, w64]
          rw [e]
          (repeat (first | assumption | (refine At.new' (by (first | omega | (simp; done) | (simp; omega))) _ _) | apply At.alloc | apply At.drewN | apply At.setRow | (apply At.setRow_neF; first | assumption | (apply Ne.symm; assumption) | omega) | (apply At.extF; assumption)))
        · (repeat (first | exact Fr.refl _ _ | assumption | apply Fr.drewN | apply Fr.alloc | (apply Fr.transF; assumption) | (refine Fr.setRow ?_ _ (by first | exact Or.inr (by (first | omega | (simp; done) | (simp; omega))) | (exact Or.inl (by first | assumption | (simp; done)))))))
  obtain rfl : j = 2 := by omega
  have hokl : l = 0 ∨ A.used l = true := hok 0 (by omega)
  have hokr : r = 0 ∨ A.used r = true := hok 1 (by omega)
  have hNs := mkN_size h.sl.wf h.ok (k := k) (v := v) hokl hokr
  have hNl : (mkN A k v l r).left = l ∧ (mkN A k v l r).right = r := ⟨by unfold mkN; rw [(addC_lr _ _ _).1, (addC_lr _ _ _).1], by unfold mkN; rw [(addC_lr _ _ _).2.1, (addC_lr _ _ _).2.1]⟩
  have hM : A.makeE k v l r = if 2147483647 < (mkN A k v l r).size then 1 else if A.free = 0 then 2 else 0 := by
    unfold AR.makeE
    have n1 : ¬ (l ≠ 0 ∧ A.used l = false) := by
      rintro ⟨a, b⟩; rcases hokl with h | h
      · exact a h
      · rw [h] at b; cases b
    have n2 : ¬ (r ≠ 0 ∧ A.used r = false) := by
      rintro ⟨a, b⟩; rcases hokr with h | h
      · exact a h
      · rw [h] at b; cases b
    by_cases hs : 2147483647 < (mkN A k v l r).size
    · rw [if_pos (Or.inr (Or.inr hs)), if_pos hs]
    · rw [if_neg (by rintro (h | h | h) <;> contradiction), if_neg hs]
  have hmk : mkS A k v l r 2 = mkN A k v l r := rfl
  rw [hmk] at hloc
  have hput : A.put (mkN A k v l r) = { A.take with node := upd A.node A.top (mkN A k v l r), cnt := upd A.cnt A.top 1 } := rfl
  have hmakeX : A.makeE k v l r = 0 → A.make k v l r = ((A.put (mkN A k v l r)).inc l).inc r := fun e => by unfold AR.make; rw [e]; rfl
  generalize mkN A k v l r = N at *
  unfold Nd.cells at hloc
  by_cases hs : 2147483647 < N.size
  · have e1 : A.makeE k v l r = 1 := by rw [hM, if_pos hs]
    have e2 : A.makeI k v l r = 0 := by unfold AR.makeI; rw [e1]; rfl
    have e3 : A.make k v l r = A := by unfold AR.make; rw [e1]; rfl
    rw [e1, e2, e3]
    repeat (first | refine sp ?_ | (refine is_load ?_; refine ld ?_) | (refine is_store ?_; refine sr ?_) | (refine is_alloc ?_; refine al ?_) | (refine is_box ?_; refine bx ?_) | (refine isl_load ?_; refine ldl ?_) | (refine isl_store ?_; refine srl ?_) | (refine isl_alloc ?_; refine all' ?_) | (refine isl_box ?_; refine bxl ?_) | refine go_drawE (Fr (fun _ => False) _) 1 Try.follows (by kernel_rfl) (by kernel_rfl) (by kernel_rfl) ((Fr.refl _ _).drewN 1) ?_)
    exact go_ret2 rfl rfl rfl ⟨_, rfl, rfl, q.rv, h1, rfl, Fr.of_ext hx⟩
  rw [if_neg hs] at hM
  by_cases hf : A.free = 0
  · have e1 : A.makeE k v l r = 2 := by rw [hM, if_pos hf]
    have e2 : A.makeI k v l r = 0 := by unfold AR.makeI; rw [e1]; rfl
    have e3 : A.make k v l r = A := by unfold AR.make; rw [e1]; rfl
    rw [e1, e2, e3]
    repeat (first | refine sp ?_ | (refine is_load ?_; refine ld ?_) | (refine is_store ?_; refine sr ?_) | (refine is_alloc ?_; refine al ?_) | (refine is_box ?_; refine bx ?_) | (refine isl_load ?_; refine ldl ?_) | (refine isl_store ?_; refine srl ?_) | (refine isl_alloc ?_; refine all' ?_) | (refine isl_box ?_; refine bxl ?_) | refine go_drawE (Fr (fun _ => False) _) 1 Try.follows (by kernel_rfl) (by kernel_rfl) (by kernel_rfl) ((Fr.refl _ _).drewN 1) ?_)
    refine go_call rfl rfl (c_slAllocF _ lo q A h1.sl hf) ?_
    rintro x w2 ⟨rfl, hx2⟩
    repeat (first | refine sp ?_ | (refine is_load ?_; refine ld ?_) | (refine is_store ?_; refine sr ?_) | (refine is_alloc ?_; refine al ?_) | (refine is_box ?_; refine bx ?_) | (refine isl_load ?_; refine ldl ?_) | (refine isl_store ?_; refine srl ?_) | (refine isl_alloc ?_; refine all' ?_) | (refine isl_box ?_; refine bxl ?_) | refine go_drawE (Fr (fun _ => False) _) 1 Try.follows (by kernel_rfl) (by kernel_rfl) (by kernel_rfl) ((Fr.refl _ _).drewN 1) ?_)
    exact go_ret2 rfl rfl rfl ⟨_, rfl, rfl, q.rv, h1.ext hx2, rfl, Fr.of_ext (hx.trans hx2)⟩
  have e1 : A.makeE k v l r = 0 := by rw [hM, if_neg hf]
  have e2 : A.makeI k v l r = A.top := by unfold AR.makeI; rw [e1]; rfl
  rw [e1, e2, hmakeX e1]
  obtain ⟨t1, t2, t3⟩ := h.sl.wf.top_bd hf
  repeat (first | refine sp ?_ | (refine is_load ?_; refine ld ?_) | (refine is_store ?_; refine sr ?_) | (refine is_alloc ?_; refine al ?_) | (refine is_box ?_; refine bx ?_) | (refine isl_load ?_; refine ldl ?_) | (refine isl_store ?_; refine srl ?_) | (refine isl_alloc ?_; refine all' ?_) | (refine isl_box ?_; refine bxl ?_) | refine go_drawE (Fr (fun _ => False) _) 1 Try.follows (by kernel_rfl) (by kernel_rfl) (by kernel_rfl) ((Fr.refl _ _).drewN 1) ?_)
  refine go_call rfl rfl (c_slAlloc _ lo q A h1.sl hf) ?_
  rintro x w2 ⟨rfl, rv, hsl, hrv, hfr⟩
  have b1 := h1.hp.ne h1.sl.hs (by decide)
  have b2 := h1.hp.ne h1.sl.hu (by decide)
  have b3 := h1.hp.ne h1.sl.hg (by decide)
  have b4 := h1.hn.ne h1.sl.hs (by decide)
  have b5 := h1.hn.ne h1.sl.hu (by decide)
  have b6 := h1.hn.ne h1.sl.hg (by decide)
  have b7 := h1.hc.ne h1.sl.hs (by decide)
  have b8 := h1.hc.ne h1.sl.hu (by decide)
  have b9 := h1.hc.ne h1.sl.hg (by decide)
  have d1 := h1.hp.ne h1.hn (by decide)
  have d2 := h1.hp.ne h1.hc (by decide)
  have d3 := h1.hn.ne h1.hc (by decide)
  have g1 := h.sl.hs.lt
  have g2 := h.sl.hu.lt
  have g3 := h.sl.hg.lt
  have hp2 := hp1.fr hfr (by rintro (e | e | e) <;> contradiction)
  have hn2 := h1.hn.fr hfr (by rintro (e | e | e) <;> contradiction)
  have hc2 := h1.hc.fr hfr (by rintro (e | e | e) <;> contradiction)
  have hloc2 := hloc.fr hfr (by rintro (e | e | e) <;> omega)
  have hll : l ≤ A.cap := by
    rcases hokl with h' | h'
    · omega
    · exact (used_le h.sl.wf h').2
  have hrl : r ≤ A.cap := by
    rcases hokr with h' | h'
    · omega
    · exact (used_le h.sl.wf h').2
  have u1 : (cellsF (fun i => [Value.int .i64 (A.cnt i)]) (A.cap + 1)).set (0 + A.top) (.int .i64 1) = cellsF (fun j => [Value.int .i64 (upd A.cnt A.top 1 j)]) (A.cap + 1) := by
    rw [Nat.zero_add]; exact one_set' (Value.int .i64) A.cnt (by omega)
  generalize hc1 : upd A.cnt A.top 1 = c1 at *
  have u2 : (cellsF (fun i => [Value.int .i64 (c1 i)]) (A.cap + 1)).set (0 + l) (.int .i64 (IntKind.i64.wrap (c1 l + 1))) = cellsF (fun j => [Value.int .i64 (upd c1 l (w64 (c1 l + 1)) j)]) (A.cap + 1) := by
    rw [Nat.zero_add]; exact one_set' (Value.int .i64) c1 (by omega)
  have v1 : (cellsF (fun i => [Value.int .i64 (c1 i)]) (A.cap + 1))[0 + l]? = some (.int .i64 (c1 l)) := by
    rw [Nat.zero_add]; exact one_get (f := fun i => Value.int .i64 (c1 i)) (by omega)
  generalize hc2' : upd c1 l (w64 (c1 l + 1)) = c2 at *
  have u3 : (cellsF (fun i => [Value.int .i64 (c2 i)]) (A.cap + 1)).set (0 + r) (.int .i64 (IntKind.i64.wrap (c2 r + 1))) = cellsF (fun j => [Value.int .i64 (upd c2 r (w64 (c2 r + 1)) j)]) (A.cap + 1) := by
    rw [Nat.zero_add]; exact one_set' (Value.int .i64) c2 (by omega)
  have v2 : (cellsF (fun i => [Value.int .i64 (c2 i)]) (A.cap + 1))[0 + r]? = some (.int .i64 (c2 r)) := by
    rw [Nat.zero_add]; exact one_get (f := fun i => Value.int .i64 (c2 i)) (by omega)
  repeat (first | refine sp ?_ | (refine is_load ?_; refine ld ?_) | (refine is_store ?_; refine sr ?_) | (refine is_alloc ?_; refine al ?_) | (refine is_box ?_; refine bx ?_) | (refine isl_load ?_; refine ldl ?_) | (refine isl_store ?_; refine srl ?_) | (refine isl_alloc ?_; refine all' ?_) | (refine isl_box ?_; refine bxl ?_) | refine go_drawE (Fr (fun _ => False) _) 1 Try.follows (by kernel_rfl) (by kernel_rfl) (by kernel_rfl) ((Fr.refl _ _).drewN 1) ?_)
  refine gol_store rfl rfl (st_agg (m := 8) (l := N.cells) (hn2.drewN 1) rfl (by decide) (by rw [cellsF_len (m := 8) (fun _ => rfl), nd_len]; omega) (nd_one N)) trivial ?_
  rw [node_splice (f := A.node) (by omega)]
  repeat (first | refine sp ?_ | (refine is_load ?_; refine ld ?_) | (refine is_alloc ?_; refine al ?_) | (refine is_box ?_; refine bx ?_) | (refine isl_load ?_; refine ldl ?_) | (refine isl_alloc ?_; refine all' ?_) | (refine isl_box ?_; refine bxl ?_) | refine dr Try.follows ?_)
  refine go_store rfl rfl (st_at (by (repeat (first | assumption | (refine At.new' (by (first | omega | (simp; done) | (simp; omega))) _ _) | apply At.alloc | apply At.drewN | apply At.setRow | (apply At.setRow_neF; first | assumption | (apply Ne.symm; assumption) | omega) | (apply At.extF; assumption)))) (by simp; omega) rfl) ?_
  rw [u1]
  repeat (first | refine sp ?_ | (refine is_load ?_; refine ld ?_) | (refine is_alloc ?_; refine al ?_) | (refine is_box ?_; refine bx ?_) | (refine isl_load ?_; refine ldl ?_) | (refine isl_alloc ?_; refine all' ?_) | (refine isl_box ?_; refine bxl ?_) | refine dr Try.follows ?_)
  refine go_store rfl rfl (st_at (by (repeat (first | assumption | (refine At.new' (by (first | omega | (simp; done) | (simp; omega))) _ _) | apply At.alloc | apply At.drewN | apply At.setRow | (apply At.setRow_neF; first | assumption | (apply Ne.symm; assumption) | omega) | (apply At.extF; assumption)))) (by simp; omega) rfl) ?_
  rw [u2]
  repeat (first | refine sp ?_ | (refine is_load ?_; refine ld ?_) | (refine is_alloc ?_; refine al ?_) | (refine is_box ?_; refine bx ?_) | (refine isl_load ?_; refine ldl ?_) | (refine isl_alloc ?_; refine all' ?_) | (refine isl_box ?_; refine bxl ?_) | refine dr Try.follows ?_)
  refine go_store rfl rfl (st_at (by (repeat (first | assumption | (refine At.new' (by (first | omega | (simp; done) | (simp; omega))) _ _) | apply At.alloc | apply At.drewN | apply At.setRow | (apply At.setRow_neF; first | assumption | (apply Ne.symm; assumption) | omega) | (apply At.extF; assumption)))) (by simp; omega) rfl) ?_
  rw [u3]
  repeat (first | refine sp ?_ | (refine is_load ?_; refine ld ?_) | (refine is_alloc ?_; refine al ?_) | (refine is_box ?_; refine bx ?_) | (refine isl_load ?_; refine ldl ?_) | (refine isl_alloc ?_; refine all' ?_) | (refine isl_box ?_; refine bxl ?_) | refine dr Try.follows ?_)
  have hfw : Fr q.fp w w2 := (Fr.of_ext hx).trans' hfr fun b _ hb => by
    rcases hb with rfl | rfl | rfl <;> simp [AP.fp]
  refine go_ret2 rfl rfl rfl ⟨_, rfl, rfl, rv, ⟨?_, ?_, ?_, ?_, ?_, h.los⟩, hrv, ?_⟩
  · show At _ q.p [.pointer (some ⟨q.s, 0, none⟩), .slice (some ⟨q.nb, 0, none⟩) (A.cap + 1) (A.cap + 1), .slice (some ⟨q.cb, 0, none⟩) (A.cap + 1) (A.cap + 1), .int .u64 (A.reads : Int)] _
    (repeat (first | assumption | (refine At.new' (by (first | omega | (simp; done) | (simp; omega))) _ _) | apply At.alloc | apply At.drewN | apply At.setRow | (apply At.setRow_neF; first | assumption | (apply Ne.symm; assumption) | omega) | (apply At.extF; assumption)))
  · show At _ q.nb (cellsF (fun j => ((upd A.node A.top N) j).cells) (A.cap + 1)) _
    (repeat (first | assumption | (refine At.new' (by (first | omega | (simp; done) | (simp; omega))) _ _) | apply At.alloc | apply At.drewN | apply At.setRow | (apply At.setRow_neF; first | assumption | (apply Ne.symm; assumption) | omega) | (apply At.extF; assumption)))
  · have e : (((A.put N).inc l).inc r).cnt = upd c2 r (w64 (c2 r + 1)) := by
      rw [hput, ← hc2']; rfl
    rw [e]
    show At _ q.cb (cellsF (fun j => [Value.int .i64 (upd c2 r (w64 (c2 r + 1)) j)]) (A.cap + 1)) _
    (repeat (first | assumption | (refine At.new' (by (first | omega | (simp; done) | (simp; omega))) _ _) | apply At.alloc | apply At.drewN | apply At.setRow | (apply At.setRow_neF; first | assumption | (apply Ne.symm; assumption) | omega) | (apply At.extF; assumption)))
  · have hk := hsl.keep (w' := ((((w2.drewN 1).setRow q.nb (cellsF (fun j => ((upd A.node A.top N) j).cells) (A.cap + 1)).toArray).setRow q.cb (cellsF (fun j => [Value.int .i64 (c1 j)]) (A.cap + 1)).toArray).setRow q.cb (cellsF (fun j => [Value.int .i64 (c2 j)]) (A.cap + 1)).toArray).setRow q.cb (cellsF (fun j => [Value.int .i64 (upd c2 r (w64 (c2 r + 1)) j)]) (A.cap + 1)).toArray) (fun b hb => by
      have hne : b ≠ q.nb ∧ b ≠ q.cb := by
        rcases hb with rfl | rfl | rfl | hb
        · exact ⟨fun e => b4 e.symm, fun e => b7 e.symm⟩
        · exact ⟨fun e => b5 e.symm, fun e => b8 e.symm⟩
        · exact ⟨fun e => b6 e.symm, fun e => b9 e.symm⟩
        · obtain ⟨_, C, hat⟩ := hsl.hr.block_lt hb
          exact ⟨hat.ne hn2 (by decide), hat.ne hc2 (by decide)⟩
      rw [setRow_other _ _ _ _ hne.2, setRow_other _ _ _ _ hne.2, setRow_other _ _ _ _ hne.2, setRow_other _ _ _ _ hne.1]
      rfl)
    exact hk.congr rfl rfl rfl rfl rfl
  · constructor
    · intro i hi
      show (upd A.node A.top N i).left ≤ A.cap ∧ (upd A.node A.top N i).right ≤ A.cap
      have hi : upd A.used A.top true i = true := hi
      unfold upd at hi ⊢
      split
      · rw [hNl.1, hNl.2]; exact ⟨hll, hrl⟩
      · rename_i e; rw [if_neg e] at hi; exact h.ok.ch i hi
    · intro i hi
      show 1 ≤ (upd A.node A.top N i).size ∧ (upd A.node A.top N i).size ≤ 2147483647
      have hi : upd A.used A.top true i = true := hi
      unfold upd at hi ⊢
      split
      · omega
      · rename_i e; rw [if_neg e] at hi; exact h.ok.sz i hi
  · refine Fr.setRow (Fr.setRow (Fr.setRow (Fr.setRow (hfw.drewN 1) _ ?_) _ ?_) _ ?_) _ ?_
    · left; simp [AP.fp]
    · left; simp [AP.fp]
    · left; simp [AP.fp]
    · left; simp [AP.fp]

end Go.Proofs.Ytapocbahkeoeoaa
