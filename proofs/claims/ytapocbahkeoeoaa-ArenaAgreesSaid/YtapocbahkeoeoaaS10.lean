/-
  The program's arena: Dump.
-/
import Derived.Test.YtapocbahkeoeoaaS9
import Derived.Test.YtapocbahkeoeoaaRd
set_option linter.unusedVariables false
namespace Go.Proofs.Ytapocbahkeoeoaa
open Go.Vc

/-- A slot of a dump. -/
structure Slt where
  on : Bool
  cnt : Int
  gen : Nat
  nd : Nd

def Slt.cells (x : Slt) : List Value := [.bool x.on, .int .i64 x.cnt, .int .u32 (x.gen : Int), .int .i64 x.nd.key, .int .i64 x.nd.val, .int .u32 (x.nd.left : Int), .int .u32 (x.nd.right : Int), .int .i64 x.nd.size, .int .i64 x.nd.sum, .int .i64 x.nd.mn, .int .i64 x.nd.mx]
def Slt.zero : Slt := ⟨false, 0, 0, Nd.zero⟩
theorem slt_len (x : Slt) : x.cells.length = 11 := rfl

structure Dp where
  slots : List Slt
  free : List Nat

def u32c (n : Nat) : List Value := [.int .u32 (n : Int)]

/-- The value 'v' is the dump 'D', in blocks from 'lo' on. -/
def DpAt (w : World) (lo : Nat) (v : Value) (D : Dp) : Prop := ∃ sv fv, v = .agg ⟨[sv, fv]⟩ ∧ Rd w lo sv Slt.cells D.slots ∧ Rd w lo fv u32c D.free

theorem DpAt.fr {w w' : World} {lo : Nat} {v : Value} {D : Dp} {S : Nat → Prop} (h : DpAt w lo v D) (f : Fr S w w') (hS : ∀ b, lo ≤ b → b < w.heap.size → ¬ S b) : DpAt w' lo v D := by
  obtain ⟨sv, fv, e, h1, h2⟩ := h
  exact ⟨sv, fv, e, h1.fr f hS, h2.fr f hS⟩
theorem DpAt.ext {w w' : World} {lo : Nat} {v : Value} {D : Dp} (h : DpAt w lo v D) (f : Ext w w') : DpAt w' lo v D := h.fr f fun _ _ _ => id

theorem OwnN.rd {w : World} {lo : Nat} {v : Value} {l : List Nat} (h : OwnN w lo v l) : Rd w lo v u32c l := by
  refine Own.rd (e := 27) (m := 1) (n := l.length) ?_ rfl
  have : l.flatMap u32c = l.map fun (i : Nat) => Value.int .u32 (i : Int) := flatMap_one _ l
  rw [this]; exact h

theorem OwnN.mono {w : World} {lo lo' : Nat} {v : Value} {l : List Nat} (h : OwnN w lo v l) (hl : lo' ≤ lo) : OwnN w lo' v l :=
  ⟨h.1, h.2.imp id (fun ⟨g, cap, cur, a, b, c⟩ => ⟨g, cap, cur, a, Nat.le_trans hl b, c⟩)⟩

theorem OwnN.setRow {w : World} {lo b : Nat} {v : Value} {l : List Nat} {C : List Value} {T : TypeId} (h : OwnN w lo v l) (hb : At w b C T) (hT : T ≠ 27) (cs : Array Value) : OwnN (w.setRow b cs) lo v l :=
  Own.of_heap h fun g hg => setRow_other _ _ _ _ fun e => by
    obtain ⟨_, C', hat⟩ := Own.block_lt h hg
    exact hb.ne hat hT e.symm

def AR.slt (A : AR) (i : Nat) : Slt := ⟨A.used i, A.countOf i, A.genOf i, A.node i⟩
def AR.dump (A : AR) : Dp := ⟨(List.range A.cap).map fun k => A.slt (k + 1), A.order⟩

theorem slt_one (N : Slt) : ∀ v ∈ N.cells, v.oneCell' = true := by
  intro v hv
  simp only [Slt.cells, List.mem_cons, List.not_mem_nil, or_false] at hv
  rcases hv with rfl | rfl | rfl | rfl | rfl | rfl | rfl | rfl | rfl | rfl | rfl <;> rfl

theorem slt_splice {f : Nat → Slt} {i n : Nat} {x : Slt} (hi : i < n) : splice (cellsF (fun i => (f i).cells) n) (0 + i * 11) x.cells = cellsF (fun j => ((upd f i x) j).cells) n := by
  rw [Nat.zero_add, cellsF_splice (f := fun i => (f i).cells) (m := 11) (fun _ => rfl) hi rfl]
  refine cellsF_congr fun j _ => ?_
  unfold upd; split <;> rfl

set_option maxHeartbeats 4000000 in
theorem p_Dump (w : World) (lo p : Nat) (q : AP) (A : AR) (h : ArP w lo p q A) :
    Calls Try.prog 36 [ptr p].toArray w (Ret fun r w' => DpAt w' w.heap.size r A.dump ∧ Ext w w') := by
  have hwf := h.wf
  have hcap := hwf.capM
  have hp := h.2.hp
  rw [h.1] at hp
  unfold arC at hp
  have hol := order_len hwf
  have hfrb : A.free ≤ 65536 := by have := rel_le hwf; have := hwf.fr; unfold AR.free; omega
  refine calls_go Try.func36 rfl Try.ntmps36 (Nat.le_of_ble_eq_true rfl) ?_
  repeat (first | refine sp ?_ | (refine is_load ?_; refine ld ?_) | (refine is_store ?_; refine sr ?_) | (refine is_alloc ?_; refine al ?_) | (refine is_box ?_; refine bx ?_))
  have hwr : Ext w (w.alloc (.cells [Value.slice none 0 0, .slice none 0 0].toArray 36)) := (Fr.refl _ _).alloc _
  have hloc : At (w.alloc (.cells [Value.slice none 0 0, .slice none 0 0].toArray 36)) w.heap.size [.slice none 0 0, .slice none 0 0] 36 := At.new _ _ _
  have hsz : (w.alloc (.cells [Value.slice none 0 0, .slice none 0 0].toArray 36)).heap.size = w.heap.size + 1 := by simp
  have har := h.ext hwr
  have hpr := hp.ext hwr
  generalize w.alloc (.cells [Value.slice none 0 0, .slice none 0 0].toArray 36) = wr at *
  refine go_cut (G := Nat × Nat × Value) [3] (fun ⟨db, _, _⟩ => [ptr db]) [(0, ptr p), (2, ptr w.heap.size)]
    (fun ⟨db, sb, fv⟩ w' => At w' db [.slice (some ⟨sb, 0, none⟩) A.cap A.cap, fv] 36 ∧ w.heap.size < db ∧ w.heap.size < sb ∧ At w' sb (cellsF (fun _ => Slt.zero.cells) A.cap) 52 ∧ OwnN w' w.heap.size fv A.order ∧ At w' w.heap.size [.slice none 0 0, .slice none 0 0] 36 ∧ Ext w w') ?_ ?_
  · refine go_sched (Fr (fun _ => False) wr) (.op 0 (.op 3 (.op 4 (.op 5 (.op 6 (.alt 1 (.alt 2 (.alt 7 (.op 8 (.op 9 (.op 10 (.fin)))) (.op 9 (.op 7 (.op 8 (.op 10 (.fin)))))) (.alt 7 (.alt 2 (.op 8 (.op 9 (.op 10 (.fin)))) (.op 9 (.op 2 (.op 8 (.op 10 (.fin)))))) (.op 9 (.alt 2 (.op 7 (.op 8 (.op 10 (.fin)))) (.op 7 (.op 2 (.op 8 (.op 10 (.fin))))))))) (.op 9 (.op 1 (.alt 2 (.op 7 (.op 8 (.op 10 (.fin)))) (.op 7 (.op 2 (.op 8 (.op 10 (.fin)))))))))))))) Try.follows (by kernel_rfl) (by kernel_rfl) (by kernel_rfl) ((Fr.refl _ _).drewN 1) ?_
    repeat' (first
      | refine go_alt rfl ?_ ?_
      | refine sp ?_
      | (refine isl_load ?_; refine ldl ?_)
      | (refine isl_alloc ?_; refine all' ?_)
      | (refine isl_store ?_; refine srl ?_)
      | (refine gol_makeF (c := A.cap) (nb := _) rfl rfl rfl rfl rfl (by omega) (by unfold maxLen; omega) (by first | (simp; rfl) | rfl) (by (repeat (first | exact Fr.refl _ _ | assumption | apply Fr.drewN | apply Fr.alloc | (apply Fr.transF; assumption) | (refine Fr.setRow ?_ _ (by first | exact Or.inr (by (first | omega | (simp; done) | (simp; omega))) | (exact Or.inl (by first | assumption | (simp; done)))))))) ?_)
      | (refine gol_call rfl rfl (p_Capacity _ lo p q A (har.ext (by (repeat (first | exact Fr.refl _ _ | assumption | apply Fr.drewN | apply Fr.alloc | (apply Fr.transF; assumption) | (refine Fr.setRow ?_ _ (by first | exact Or.inr (by (first | omega | (simp; done) | (simp; omega))) | (exact Or.inl (by first | assumption | (simp; done)))))))))) ?_; rintro r w1 ⟨rfl, rfl⟩; refine ⟨by (repeat (first | exact Fr.refl _ _ | assumption | apply Fr.drewN | apply Fr.alloc | (apply Fr.transF; assumption) | (refine Fr.setRow ?_ _ (by first | exact Or.inr (by (first | omega | (simp; done) | (simp; omega))) | (exact Or.inl (by first | assumption | (simp; done))))))), ?_⟩)
      | (refine gol_call rfl rfl (c_slOrder _ lo q A (har.2.sl.ext (by (repeat (first | exact Fr.refl _ _ | assumption | apply Fr.drewN | apply Fr.alloc | (apply Fr.transF; assumption) | (refine Fr.setRow ?_ _ (by first | exact Or.inr (by (first | omega | (simp; done) | (simp; omega))) | (exact Or.inl (by first | assumption | (simp; done)))))))))) ?_; rintro fv wO ⟨hoO, hxO⟩; have hsO := hxO.size; simp at hsO; refine ⟨by (repeat (first | exact Fr.refl _ _ | assumption | apply Fr.drewN | apply Fr.alloc | (apply Fr.transF; assumption) | (refine Fr.setRow ?_ _ (by first | exact Or.inr (by (first | omega | (simp; done) | (simp; omega))) | (exact Or.inl (by first | assumption | (simp; done))))))), ?_⟩; replace hoO := hoO.mono (show w.heap.size ≤ _ by first | omega | (simp; omega)); obtain ⟨sf, cf, rfl, hcf, _⟩ := Own.slice hoO))
    all_goals (refine go_stop (G := Nat × Nat × Value) (_, _, _) rfl ⟨rfl, rfl, trivial⟩ ⟨by (repeat (first | assumption | (refine At.new' (by (first | omega | (simp; done) | (simp; omega))) _ _) | apply At.alloc | apply At.drewN | apply At.setRow | (apply At.setRow_neF; first | assumption | (apply Ne.symm; assumption) | omega) | (apply At.extF; assumption))), ?_, ?_, by (repeat (first | assumption | (refine At.new' (by (first | omega | (simp; done) | (simp; omega))) _ _) | apply At.alloc | apply At.drewN | apply At.setRow | (apply At.setRow_neF; first | assumption | (apply Ne.symm; assumption) | omega) | (apply At.extF; assumption))), ?_, by (repeat (first | assumption | (refine At.new' (by (first | omega | (simp; done) | (simp; omega))) _ _) | apply At.alloc | apply At.drewN | apply At.setRow | (apply At.setRow_neF; first | assumption | (apply Ne.symm; assumption) | omega) | (apply At.extF; assumption))), ?_⟩ trivial)
    all_goals first
      | omega
      | (simp; omega)
      | exact (OwnN.ext hoO (by (repeat (first | exact Fr.refl _ _ | assumption | apply Fr.drewN | apply Fr.alloc | (apply Fr.transF; assumption) | (refine Fr.setRow ?_ _ (by first | exact Or.inr (by (first | omega | (simp; done) | (simp; omega))) | (exact Or.inl (by first | assumption | (simp; done))))))))).setRow (C := _) (T := 36) (by (repeat (first | assumption | (refine At.new' (by (first | omega | (simp; done) | (simp; omega))) _ _) | apply At.alloc | apply At.drewN | apply At.setRow | (apply At.setRow_neF; first | assumption | (apply Ne.symm; assumption) | omega) | (apply At.extF; assumption)))) (by decide) _
      | (show Ext _ _; (repeat (first | exact Fr.refl _ _ | assumption | apply Fr.drewN | apply Fr.alloc | (apply Fr.transF; assumption) | (refine Fr.setRow ?_ _ (by first | exact Or.inr (by (first | omega | (simp; done) | (simp; omega))) | (exact Or.inl (by first | assumption | (simp; done))))))))
  · rintro ⟨db, sb, fv⟩ w1 ⟨hdb, hd1, hs1, hsb, hfv, hl1, hx1⟩
    obtain ⟨sf, cf, rfl, hcf, hrf⟩ := Own.slice hfv
    have hdl := hdb.lt
    have hsl := hsb.lt
    repeat (first | refine sp ?_ | (refine is_load ?_; refine ld ?_) | (refine is_store ?_; refine sr ?_) | (refine is_alloc ?_; refine al ?_) | (refine is_box ?_; refine bx ?_))
    refine go_loop (G := Nat) [18] (fun k => [.int .i64 (k : Int)]) [(0, ptr p), (2, ptr w.heap.size), (3, ptr db), (17, .int .i64 (A.cap : Int))]
      (fun k w' => k ≤ A.cap ∧ At w' db [.slice (some ⟨sb, 0, none⟩) A.cap A.cap, .slice sf A.order.length cf] 36 ∧ At w' sb (cellsF (fun j => (if j < k then A.slt (j + 1) else Slt.zero).cells) A.cap) 52 ∧ OwnN w' w.heap.size (.slice sf A.order.length cf) A.order ∧ At w' w.heap.size [.slice none 0 0, .slice none 0 0] 36 ∧ Ext w w') (fun k => A.cap - k) 0 rfl ⟨rfl, rfl, rfl, rfl, trivial⟩ ⟨by omega, hdb, by simpa using hsb, hfv, hl1, hx1⟩ ?_
    rintro k w2 ⟨hk, hdb2, hsb2, hfv2, hl2, hx2⟩
    have ha2 := h.ext hx2
    by_cases hlt : k < A.cap
    · have hp2 := hp.ext hx2
      have hs2 := ha2.2.sl
      have hn2 := ha2.2.hn
      have hsz2 := hx2.size
      have f1 := h.2.hn.lt
      repeat (first | refine sp ?_ | (refine is_load ?_; refine ld ?_) | (refine is_store ?_; refine sr ?_) | (refine is_alloc ?_; refine al ?_) | (refine is_box ?_; refine bx ?_) | (refine isl_load ?_; refine ldl ?_) | (refine isl_store ?_; refine srl ?_) | (refine isl_alloc ?_; refine all' ?_) | (refine isl_box ?_; refine bxl ?_) | refine go_drawE (Fr (fun _ => False) _) 1 Try.follows (by kernel_rfl) (by kernel_rfl) (by kernel_rfl) ((Fr.refl _ _).drewN 1) ?_)
      refine go_as 5 (u' := .int .u32 ((k + 1 : Nat) : Int)) rfl (by congr 1) ?_
      refine go_as 31 (u' := .int .u32 ((k + 1 : Nat) : Int)) rfl (by congr 1) ?_
      refine gol_call rfl rfl (c_slAllocated _ lo q A (k + 1) (hs2.ext (by (repeat (first | exact Fr.refl _ _ | assumption | apply Fr.drewN | apply Fr.alloc | (apply Fr.transF; assumption) | (refine Fr.setRow ?_ _ (by first | exact Or.inr (by (first | omega | (simp; done) | (simp; omega))) | (exact Or.inl (by first | assumption | (simp; done))))))))) (by omega)) ?_
      rintro r w3 ⟨rfl, hx3⟩
      refine ⟨by show Ext _ _; (repeat (first | exact Fr.refl _ _ | assumption | apply Fr.drewN | apply Fr.alloc | (apply Fr.transF; assumption) | (refine Fr.setRow ?_ _ (by first | exact Or.inr (by (first | omega | (simp; done) | (simp; omega))) | (exact Or.inl (by first | assumption | (simp; done))))))), ?_⟩
      repeat (first | refine sp ?_ | (refine is_load ?_; refine ld ?_) | (refine is_store ?_; refine sr ?_) | (refine is_alloc ?_; refine al ?_) | (refine is_box ?_; refine bx ?_) | (refine isl_load ?_; refine ldl ?_) | (refine isl_store ?_; refine srl ?_) | (refine isl_alloc ?_; refine all' ?_) | (refine isl_box ?_; refine bxl ?_) | refine go_drawE (Fr (fun _ => False) _) 1 Try.follows (by kernel_rfl) (by kernel_rfl) (by kernel_rfl) ((Fr.refl _ _).drewN 1) ?_)
      refine go_as 34 (u' := .int .u32 ((k + 1 : Nat) : Int)) rfl (by congr 1) ?_
      refine gol_call rfl rfl (p_Count _ lo p q A (k + 1) (ha2.ext (by (repeat (first | exact Fr.refl _ _ | assumption | apply Fr.drewN | apply Fr.alloc | (apply Fr.transF; assumption) | (refine Fr.setRow ?_ _ (by first | exact Or.inr (by (first | omega | (simp; done) | (simp; omega))) | (exact Or.inl (by first | assumption | (simp; done))))))))) (by omega)) ?_
      rintro r w4 ⟨rfl, hx4⟩
      refine ⟨by show Ext _ _; (repeat (first | exact Fr.refl _ _ | assumption | apply Fr.drewN | apply Fr.alloc | (apply Fr.transF; assumption) | (refine Fr.setRow ?_ _ (by first | exact Or.inr (by (first | omega | (simp; done) | (simp; omega))) | (exact Or.inl (by first | assumption | (simp; done))))))), ?_⟩
      repeat (first | refine sp ?_ | (refine is_load ?_; refine ld ?_) | (refine is_store ?_; refine sr ?_) | (refine is_alloc ?_; refine al ?_) | (refine is_box ?_; refine bx ?_) | (refine isl_load ?_; refine ldl ?_) | (refine isl_store ?_; refine srl ?_) | (refine isl_alloc ?_; refine all' ?_) | (refine isl_box ?_; refine bxl ?_) | refine go_drawE (Fr (fun _ => False) _) 1 Try.follows (by kernel_rfl) (by kernel_rfl) (by kernel_rfl) ((Fr.refl _ _).drewN 1) ?_)
      refine go_as 37 (u' := .int .u32 ((k + 1 : Nat) : Int)) rfl (by congr 1) ?_
      refine gol_call rfl rfl (p_Generation _ lo p q A (k + 1) (ha2.ext (by (repeat (first | exact Fr.refl _ _ | assumption | apply Fr.drewN | apply Fr.alloc | (apply Fr.transF; assumption) | (refine Fr.setRow ?_ _ (by first | exact Or.inr (by (first | omega | (simp; done) | (simp; omega))) | (exact Or.inl (by first | assumption | (simp; done))))))))) (by omega)) ?_
      rintro r w5 ⟨rfl, hx5⟩
      refine ⟨by show Ext _ _; (repeat (first | exact Fr.refl _ _ | assumption | apply Fr.drewN | apply Fr.alloc | (apply Fr.transF; assumption) | (refine Fr.setRow ?_ _ (by first | exact Or.inr (by (first | omega | (simp; done) | (simp; omega))) | (exact Or.inl (by first | assumption | (simp; done))))))), ?_⟩
      repeat (first | refine sp ?_ | (refine is_load ?_; refine ld ?_) | (refine is_store ?_; refine sr ?_) | (refine is_alloc ?_; refine al ?_) | (refine is_box ?_; refine bx ?_) | (refine isl_load ?_; refine ldl ?_) | (refine isl_store ?_; refine srl ?_) | (refine isl_alloc ?_; refine all' ?_) | (refine isl_box ?_; refine bxl ?_) | refine go_drawE (Fr (fun _ => False) _) 1 Try.follows (by kernel_rfl) (by kernel_rfl) (by kernel_rfl) ((Fr.refl _ _).drewN 1) ?_)
      refine go_as 43 (u' := .int .u32 ((k + 1 : Nat) : Int)) rfl (by congr 1) ?_
      repeat (first | refine sp ?_ | (refine is_load ?_; refine ld ?_) | (refine is_store ?_; refine sr ?_) | (refine is_alloc ?_; refine al ?_) | (refine is_box ?_; refine bx ?_) | (refine isl_load ?_; refine ldl ?_) | (refine isl_store ?_; refine srl ?_) | (refine isl_alloc ?_; refine all' ?_) | (refine isl_box ?_; refine bxl ?_) | refine go_drawE (Fr (fun _ => False) _) 1 Try.follows (by kernel_rfl) (by kernel_rfl) (by kernel_rfl) ((Fr.refl _ _).drewN 1) ?_)
      refine gol_load rfl rfl (ldD_of fun w' f => node_ld (At.fr hn2 f id) (by omega)) ?_
      repeat (first | refine sp ?_ | (refine is_load ?_; refine ld ?_) | (refine is_store ?_; refine sr ?_) | (refine is_alloc ?_; refine al ?_) | (refine is_box ?_; refine bx ?_) | (refine isl_load ?_; refine ldl ?_) | (refine isl_store ?_; refine srl ?_) | (refine isl_alloc ?_; refine all' ?_) | (refine isl_box ?_; refine bxl ?_) | refine go_drawE (Fr (fun _ => False) _) 1 Try.follows (by kernel_rfl) (by kernel_rfl) (by kernel_rfl) ((Fr.refl _ _).drewN 1) ?_)
      refine gol_store rfl rfl (st_agg (m := 11) (l := (A.slt (k + 1)).cells) (C := cellsF (fun j => (if j < k then A.slt (j + 1) else Slt.zero).cells) A.cap) (T := 52) (by (repeat (first | assumption | (refine At.new' (by (first | omega | (simp; done) | (simp; omega))) _ _) | apply At.alloc | apply At.drewN | apply At.setRow | (apply At.setRow_neF; first | assumption | (apply Ne.symm; assumption) | omega) | (apply At.extF; assumption)))) rfl (by decide) (by rw [cellsF_len (m := 11) (fun _ => rfl), slt_len]; omega) (slt_one _)) trivial ?_
      rw [slt_splice (f := fun j => if j < k then A.slt (j + 1) else Slt.zero) hlt]
      have hfun : (upd (fun j => if j < k then A.slt (j + 1) else Slt.zero) k (A.slt (k + 1))) = fun j => if j < k + 1 then A.slt (j + 1) else Slt.zero := by
        funext j
        unfold upd
        by_cases e : j = k
        · subst e; simp
        · rw [if_neg e]
          by_cases e2 : j < k
          · simp [e2, show j < k + 1 by omega]
          · simp [e2, show ¬ j < k + 1 by omega]
      rw [hfun]
      have e1 := hx3.size
      have e2 := hx4.size
      have e3 := hx5.size
      simp at e1
      have d1 := hdb2.ne hsb2 (by decide)
      have d2 := hl2.lt
      repeat (first | refine sp ?_ | (refine is_load ?_; refine ld ?_) | (refine is_store ?_; refine sr ?_) | (refine is_alloc ?_; refine al ?_) | (refine is_box ?_; refine bx ?_) | (refine isl_load ?_; refine ldl ?_) | (refine isl_store ?_; refine srl ?_) | (refine isl_alloc ?_; refine all' ?_) | (refine isl_box ?_; refine bxl ?_) | refine go_drawE (Fr (fun _ => False) _) 1 Try.follows (by kernel_rfl) (by kernel_rfl) (by kernel_rfl) ((Fr.refl _ _).drewN 1) ?_)
      refine go_stop (G := Nat) (k + 1) rfl ⟨rfl, rfl, rfl, rfl, trivial⟩ ⟨hlt, by (repeat (first | assumption | (refine At.new' (by (first | omega | (simp; done) | (simp; omega))) _ _) | apply At.alloc | apply At.drewN | apply At.setRow | (apply At.setRow_neF; first | assumption | (apply Ne.symm; assumption) | omega) | (apply At.extF; assumption))), by (repeat (first | assumption | (refine At.new' (by (first | omega | (simp; done) | (simp; omega))) _ _) | apply At.alloc | apply At.drewN | apply At.setRow | (apply At.setRow_neF; first | assumption | (apply Ne.symm; assumption) | omega) | (apply At.extF; assumption))), ?_, by (repeat (first | assumption | (refine At.new' (by (first | omega | (simp; done) | (simp; omega))) _ _) | apply At.alloc | apply At.drewN | apply At.setRow | (apply At.setRow_neF; first | assumption | (apply Ne.symm; assumption) | omega) | (apply At.extF; assumption))), ?_⟩ (by show A.cap - (k + 1) < A.cap - k; omega)
      · exact (OwnN.ext hfv2 (by (repeat (first | exact Fr.refl _ _ | assumption | apply Fr.drewN | apply Fr.alloc | (apply Fr.transF; assumption) | (refine Fr.setRow ?_ _ (by first | exact Or.inr (by (first | omega | (simp; done) | (simp; omega))) | (exact Or.inl (by first | assumption | (simp; done))))))))).setRow (C := _) (T := 52) (by (repeat (first | assumption | (refine At.new' (by (first | omega | (simp; done) | (simp; omega))) _ _) | apply At.alloc | apply At.drewN | apply At.setRow | (apply At.setRow_neF; first | assumption | (apply Ne.symm; assumption) | omega) | (apply At.extF; assumption)))) (by decide) _
      · (repeat (first | exact Fr.refl _ _ | assumption | apply Fr.drewN | apply Fr.alloc | (apply Fr.transF; assumption) | (refine Fr.setRow ?_ _ (by first | exact Or.inr (by (first | omega | (simp; done) | (simp; omega))) | (exact Or.inl (by first | assumption | (simp; done)))))))
    · obtain rfl : k = A.cap := by omega
      have hsl2 := hsb2.lt
      have hdl2 := hdb2.lt
      repeat (first | refine sp ?_ | (refine is_load ?_; refine ld ?_) | (refine is_store ?_; refine sr ?_) | (refine is_alloc ?_; refine al ?_) | (refine is_box ?_; refine bx ?_))
      refine go_ret1 rfl ⟨_, rfl, Ld.run (ld_part (by (repeat (first | assumption | (refine At.new' (by (first | omega | (simp; done) | (simp; omega))) _ _) | apply At.alloc | apply At.drewN | apply At.setRow | (apply At.setRow_neF; first | assumption | (apply Ne.symm; assumption) | omega) | (apply At.extF; assumption)))) rfl rfl)⟩ ⟨_, rfl, ⟨_, _, rfl, ?_, ?_⟩, by (repeat (first | exact Fr.refl _ _ | assumption | apply Fr.drewN | apply Fr.alloc | (apply Fr.transF; assumption) | (refine Fr.setRow ?_ _ (by first | exact Or.inr (by (first | omega | (simp; done) | (simp; omega))) | (exact Or.inl (by first | assumption | (simp; done)))))))⟩
      · have e : cellsF (fun j => (if j < A.cap then A.slt (j + 1) else Slt.zero).cells) A.cap = A.dump.slots.flatMap Slt.cells := by
          show _ = ((List.range A.cap).map fun k => A.slt (k + 1)).flatMap Slt.cells
          rw [List.flatMap_map]
          exact cellsF_congr fun j hj => by rw [if_pos hj]
        rw [e] at hsb2
        refine At.rd (T := 52) (by (repeat (first | assumption | (refine At.new' (by (first | omega | (simp; done) | (simp; omega))) _ _) | apply At.alloc | apply At.drewN | apply At.setRow | (apply At.setRow_neF; first | assumption | (apply Ne.symm; assumption) | omega) | (apply At.extF; assumption)))) (by simp [AR.dump]) (by omega)
      · exact (hfv2.setRow hl2 (by decide) _).rd

end Go.Proofs.Ytapocbahkeoeoaa
