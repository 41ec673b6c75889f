/-
  The nodes of a dump.
-/
import Derived.Test.YtfaeboamjfdjlaaCp
set_option linter.unusedVariables false
namespace Go.Proofs.Ytfaeboamjfdjlaa
open Go.Vc

theorem nodeOf_un {A : AR} {i : Nat} (h : A.used i = false) : A.nodeOf i = Nd.zero := by unfold AR.nodeOf; rw [h]; rfl
theorem nodeOf_us {A : AR} {i : Nat} (h : A.used i = true) : A.nodeOf i = A.node i := by unfold AR.nodeOf; rw [h]; rfl
theorem used_lt {A : AR} (hw : Wf A) {i : Nat} (h : i = 0 ∨ A.used i = true) : i < 4294967296 := by
  have := hw.capM
  rcases h with e | e
  · omega
  · have := used_le hw e; omega
def Dp.ndAt (D : Dp) : Nat → Nd
  | 0 => Nd.zero
  | j + 1 => match D.slots[j]? with
    | some s => if s.on = true then s.nd else Nd.zero
    | none => Nd.zero
theorem Dp.ndAt_un {D : Dp} {i : Nat} (h : D.al i = false) : D.ndAt i = Nd.zero := by
  cases i with
  | zero => rfl
  | succ j =>
    simp only [Dp.al] at h
    simp only [Dp.ndAt]
    cases e : D.slots[j]? with
    | none => rfl
    | some s =>
      rw [e] at h
      simp only at h
      simp [h]
theorem dump_nd {A : AR} (hw : Wf A) (i : Nat) : A.dump.ndAt i = A.nodeOf i := by
  cases hu : A.used i with
  | false => rw [nodeOf_un hu, Dp.ndAt_un (by rw [dump_al hw]; exact hu)]
  | true =>
    rw [nodeOf_us hu]
    obtain ⟨h1, h2⟩ := used_le hw hu
    obtain ⟨j, rfl⟩ : ∃ j, i = j + 1 := ⟨i - 1, by omega⟩
    have e : (A.slt (j + 1)).on = true := hu
    simp only [Dp.ndAt]
    rw [dump_get (show j < A.cap by omega)]
    simp only []
    rw [if_pos e]; rfl

set_option maxHeartbeats 1000000 in
theorem c_ref7node (w : World) (lo : Nat) (v : Value) (D : Dp) (i : Nat) (hd : DpAt w lo v D) (hk : D.slots.length ≤ 1000000) (hi : i < 4294967296) :
    Calls Try.prog 41 [v, .int .u32 (i : Int)].toArray w (Ret fun r w' => r = .agg ⟨(D.ndAt i).cells⟩ ∧ Ext w w') := by
  have hd0 := hd
  obtain ⟨sv, fv, rfl, hs, hf⟩ := hd
  have hs' := hs.up
  obtain ⟨s1, c1, rfl, h1, _, _⟩ := hs
  obtain ⟨s2, c2, rfl, h2, _, _⟩ := hf
  refine calls_go Try.func41 rfl Try.ntmps41 (Nat.le_of_ble_eq_true rfl) ?_
  repeat (first | refine sp ?_ | (refine is_load ?_; refine ld ?_) | (refine is_store ?_; refine sr ?_) | (refine is_alloc ?_; refine al ?_) | (refine is_box ?_; refine bx ?_) | (refine isl_load ?_; refine ldl ?_) | (refine isl_store ?_; refine srl ?_) | (refine isl_alloc ?_; refine all' ?_) | (refine isl_box ?_; refine bxl ?_))
  refine go_name (F := fun w1 => At w1 w.heap.size [.slice s1 D.slots.length c1, .slice s2 D.free.length c2] 31 ∧ At w1 (w.heap.size + 1) [.int .i64 0, .int .i64 0, .int .u32 0, .int .u32 0, .int .i64 0, .int .i64 0, .int .i64 0, .int .i64 0] 41 ∧ Ext w w1) ⟨by (repeat (first | assumption | (refine At.new' (by (first | omega | (simp; done) | (simp; omega))) _ _) | apply At.alloc | apply At.drewN | apply At.setRow | (apply At.setRow_neF; first | assumption | (apply Ne.symm; assumption) | omega) | (apply At.extF; assumption))), by (repeat (first | assumption | (refine At.new' (by (first | omega | (simp; done) | (simp; omega))) _ _) | apply At.alloc | apply At.drewN | apply At.setRow | (apply At.setRow_neF; first | assumption | (apply Ne.symm; assumption) | omega) | (apply At.extF; assumption))), by (repeat (first | exact Fr.refl _ _ | assumption | apply Fr.drewN | apply Fr.alloc | (apply Fr.transF; assumption) | (refine Fr.setRow ?_ _ (by first | exact Or.inr (by (first | omega | (simp; done) | (simp; omega))) | (exact Or.inl (by first | assumption | (simp; done)))))))⟩ ?_
  rintro w1 ⟨hb1, hz1, hx1⟩
  refine go_call rfl rfl (c_Allocated w1 lo _ D i (hd0.ext hx1) hk hi) ?_
  rintro _ w2 ⟨rfl, hx2⟩
  have hx2' := hx1.trans hx2
  replace hb1 := hb1.ext hx2
  replace hz1 := hz1.ext hx2
  have hl2 := hz1.lt
  have hq : w.heap.size ≤ w.heap.size + 1 := by omega
  cases hal : D.al i with
  | false =>
    rw [Dp.ndAt_un hal]
    unfold Nd.zero Nd.cells
    repeat (first | refine sp ?_ | (refine is_load ?_; refine ld ?_) | (refine is_store ?_; refine sr ?_) | (refine is_alloc ?_; refine al ?_) | (refine is_box ?_; refine bx ?_) | (refine isl_load ?_; refine ldl ?_) | (refine isl_store ?_; refine srl ?_) | (refine isl_alloc ?_; refine all' ?_) | (refine isl_box ?_; refine bxl ?_))
    exact go_ret1 rfl ⟨_, rfl, Ld.run (ld_part (by (repeat (first | assumption | (refine At.new' (by (first | omega | (simp; done) | (simp; omega))) _ _) | apply At.alloc | apply At.drewN | apply At.setRow | (apply At.setRow_neF; first | assumption | (apply Ne.symm; assumption) | omega) | (apply At.extF; assumption)))) rfl rfl)⟩ ⟨_, rfl, rfl, hx2'.trans' (S' := fun b => w.heap.size ≤ b) (by (repeat (first | exact Fr.refl _ _ | assumption | apply Fr.drewN | apply Fr.alloc | (apply Fr.transF; assumption) | (refine Fr.setRow ?_ _ (by first | exact Or.inr (by (first | omega | (simp; done) | (simp; omega))) | (exact Or.inl (by first | assumption | (simp; done)))))))) fun b hb e => by omega⟩
  | true =>
    obtain ⟨y, rfl, hy, hon⟩ := Dp.al_lt hal
    obtain ⟨b, o, e, hbl, hcell⟩ := (hs'.ext hx2').at (m := 11) slt_len (by omega) hy
    subst e
    have hnd : D.ndAt (y + 1) = D.slots[y].nd := by simp only [Dp.ndAt]; rw [List.getElem?_eq_getElem hy]; simp only []; rw [if_pos hon]
    rw [hnd]
    generalize D.slots[y] = s at *
    repeat (first | refine sp ?_ | (refine is_load ?_; refine ld ?_) | (refine is_store ?_; refine sr ?_) | (refine is_alloc ?_; refine al ?_) | (refine is_box ?_; refine bx ?_) | (refine isl_load ?_; refine ldl ?_) | (refine isl_store ?_; refine srl ?_) | (refine isl_alloc ?_; refine all' ?_) | (refine isl_box ?_; refine bxl ?_))
    refine go_as 13 (u' := .int .u32 (y : Int)) rfl (by congr 1; omega) ?_
    repeat (first | refine sp ?_ | (refine is_load ?_; refine ld ?_) | (refine is_store ?_; refine sr ?_) | (refine is_alloc ?_; refine al ?_) | (refine is_box ?_; refine bx ?_) | (refine isl_load ?_; refine ldl ?_) | (refine isl_store ?_; refine srl ?_) | (refine isl_alloc ?_; refine all' ?_) | (refine isl_box ?_; refine bxl ?_))
    refine go_load (v := .agg s.nd.cells.toArray) rfl rfl (ld_cells (m := 8) rfl (by decide) fun j u hj => by
      have h8 : j < 8 := (List.getElem?_eq_some_iff.1 hj).1
      have := hcell (3 + j) u (by
        unfold Slt.cells Nd.cells at *
        rw [Nat.add_comm]; exact hj)
      rw [addr_add, Nat.add_assoc]; exact this) ?_
    generalize s.nd = N
    unfold Nd.cells
    repeat (first | refine sp ?_ | (refine is_load ?_; refine ld ?_) | (refine is_store ?_; refine sr ?_) | (refine is_alloc ?_; refine al ?_) | (refine is_box ?_; refine bx ?_) | (refine isl_load ?_; refine ldl ?_) | (refine isl_store ?_; refine srl ?_) | (refine isl_alloc ?_; refine all' ?_) | (refine isl_box ?_; refine bxl ?_))
    exact go_ret1 rfl ⟨_, rfl, Ld.run (ld_part (by (repeat (first | assumption | (refine At.new' (by (first | omega | (simp; done) | (simp; omega))) _ _) | apply At.alloc | apply At.drewN | apply At.setRow | (apply At.setRow_neF; first | assumption | (apply Ne.symm; assumption) | omega) | (apply At.extF; assumption)))) rfl rfl)⟩ ⟨_, rfl, rfl, hx2'.trans' (S' := fun b => w.heap.size ≤ b) (by (repeat (first | exact Fr.refl _ _ | assumption | apply Fr.drewN | apply Fr.alloc | (apply Fr.transF; assumption) | (refine Fr.setRow ?_ _ (by first | exact Or.inr (by (first | omega | (simp; done) | (simp; omega))) | (exact Or.inl (by first | assumption | (simp; done)))))))) fun b hb e => by omega⟩

end Go.Proofs.Ytfaeboamjfdjlaa
