/-
  The program's allocator of slots: Release, Order, New.
-/
import Derived.Test.YtapocbahkeoeoaaS3
set_option linter.unusedVariables false
namespace Go.Proofs.Ytapocbahkeoeoaa
open Go.Vc

def AR.unput (A : AR) (i : Nat) : AR := { A with used := upd A.used i false, rel := A.rel ++ [i] }

theorem Wf.unput {A : AR} (h : Wf A) {i : Nat} (hi : A.used i = true) : Wf (A.unput i) := by
  obtain ⟨h1, h2⟩ := h.uf i hi
  have hni : i ∉ A.rel := fun hm => by have := (h.rl i hm).2.2; rw [hi] at this; cases this
  refine ⟨h.cap1, h.capM, h.fr, ?_, ?_, ?_, ?_, h.gn⟩
  · intro j hj
    simp only [AR.unput, List.mem_append, List.mem_singleton] at hj ⊢
    rcases hj with hj | rfl
    · have := h.rl j hj
      refine ⟨this.1, this.2.1, ?_⟩
      unfold upd; split
      · rfl
      · exact this.2.2
    · exact ⟨h1, h2, upd_same _ _ _⟩
  · simp only [AR.unput]
    rw [List.nodup_append]
    refine ⟨h.nd, by simp, ?_⟩
    intro a ha b hb
    simp only [List.mem_singleton] at hb
    subst hb
    rintro rfl
    exact hni ha
  · intro j hj
    simp only [AR.unput] at hj ⊢
    unfold upd at hj
    split at hj
    · cases hj
    · exact h.uf j hj
  · intro j h1 h2 h3
    simp only [AR.unput] at h3 ⊢
    unfold upd at h3
    split at h3
    · rename_i e; subst e; simp
    · exact List.mem_append.2 (Or.inl (h.al j h1 h2 h3))

theorem c_slRelease (w : World) (lo : Nat) (q : AP) (A : AR) (i : Nat) (h : SlAt w lo q A) (hlo : lo ≤ w.heap.size) (hi : A.used i = true) :
    Calls Try.prog 76 [.pointer (some ⟨q.s, 0, none⟩), .int .u32 (i : Int)].toArray w (Ret fun r w' => r = .int .i64 0 ∧
      ∃ rv, SlAt w' lo { q with rv := rv } (A.unput i) ∧ (∀ b, rv.ownBlock = some b → q.rv.ownBlock = some b ∨ w.heap.size ≤ b) ∧ Fr (fun b => b = q.s ∨ b = q.ub ∨ q.rv.ownBlock = some b) w w') := by
  have hwf := h.wf
  have hcap := hwf.capM
  have hfr := hwf.fr
  have hrl := rel_le hwf
  obtain ⟨t1, t2⟩ := hwf.uf i hi
  have hwu := hwf.unput hi
  refine calls_go Try.func76 rfl Try.ntmps76 (Nat.le_of_ble_eq_true rfl) ?_
  repeat (first | refine sp ?_ | (refine is_load ?_; refine ld ?_) | (refine is_store ?_; refine sr ?_) | (refine is_alloc ?_; refine al ?_) | (refine is_box ?_; refine bx ?_) | (refine isl_load ?_; refine ldl ?_) | (refine isl_store ?_; refine srl ?_) | (refine isl_alloc ?_; refine all' ?_) | (refine isl_box ?_; refine bxl ?_) | refine dr Try.follows ?_)
  refine go_call rfl rfl (c_slAllocated w lo q A i h (by omega)) ?_
  rintro r w1 ⟨rfl, hx⟩
  rw [hi]
  have h1 := h.ext hx
  have hs1 := h1.hs
  unfold slC at hs1
  have hu1 := h1.hu
  have hg1 := h1.hg
  have n1 := hs1.ne hu1 (by decide)
  have n2 := hs1.ne hg1 (by decide)
  have n3 := hu1.ne hg1 (by decide)
  have hus : (cellsF (fun i => [Value.bool (A.used i)]) (A.cap + 1)).set (0 + i) (.bool false) = cellsF (fun j => [Value.bool ((A.unput i).used j)]) (A.cap + 1) := by
    rw [Nat.zero_add]; exact one_set' Value.bool A.used (by omega)
  obtain ⟨sv, cv, hrv, hcv, _⟩ := h1.hr.slice
  rw [hrv] at hs1
  repeat (first | refine sp ?_ | (refine is_load ?_; refine ld ?_) | (refine is_store ?_; refine sr ?_) | (refine is_alloc ?_; refine al ?_) | (refine is_box ?_; refine bx ?_) | (refine isl_load ?_; refine ldl ?_) | (refine isl_store ?_; refine srl ?_) | (refine isl_alloc ?_; refine all' ?_) | (refine isl_box ?_; refine bxl ?_) | refine dr Try.follows ?_)
  have hown : Own (w1.setRow q.ub ((cellsF (fun i => [Value.bool (A.used i)]) (A.cap + 1)).set (0 + i) (.bool false)).toArray) lo 27 1 (.slice sv A.rel.length cv) A.rel.length (A.rel.map fun (i : Nat) => Value.int .u32 (i : Int)) := by
    rw [← hrv]
    refine h1.hr.of_heap fun g hg => ?_
    obtain ⟨C, hat⟩ := (h1.hr.block_lt hg).2
    exact setRow_other _ _ _ _ (Ne.symm (hu1.ne hat (by decide)))
  refine go_pushG (by decide) rfl rfl rfl rfl hown rfl (by intro u hu; simp at hu; subst hu; rfl) (by omega) (by unfold maxLen; omega) (by omega) (by have := hx.size; simp; omega) ?_
  intro rv w2 ho2 hg2 hb2
  have hs2 : At w2 q.s [.slice (some ⟨q.ub, 0, none⟩) (A.cap + 1) (A.cap + 1), .slice (some ⟨q.gb, 0, none⟩) (A.cap + 1) (A.cap + 1), .slice sv A.rel.length cv, .int .u32 (A.fresh : Int)] 115 := by
    have h3 := hs1.setRow_ne (Ne.symm n1) ((cellsF (fun i => [Value.bool (A.used i)]) (A.cap + 1)).set (0 + i) (.bool false)).toArray
    refine ⟨(hg2.block _ h3.lt fun e => ?_).trans h3.h⟩
    obtain ⟨_, C, hat⟩ := hown.block_lt e.symm
    exact h3.ne hat (by decide) rfl
  have hu2 : At w2 q.ub (cellsF (fun j => [Value.bool ((A.unput i).used j)]) (A.cap + 1)) 4 := by
    have h3 := hu1.setRow ((cellsF (fun i => [Value.bool (A.used i)]) (A.cap + 1)).set (0 + i) (.bool false))
    rw [← hus]
    refine ⟨(hg2.block _ h3.lt fun e => ?_).trans h3.h⟩
    obtain ⟨_, C, hat⟩ := hown.block_lt e.symm
    exact h3.ne hat (by decide) rfl
  have hg3 : At w2 q.gb (cellsF (fun i => [Value.int .u32 (A.gen i : Int)]) (A.cap + 1)) 27 := by
    have h3 := hg1.setRow_ne n3 ((cellsF (fun i => [Value.bool (A.used i)]) (A.cap + 1)).set (0 + i) (.bool false)).toArray
    refine ⟨(hg2.block _ h3.lt fun e => ?_).trans h3.h⟩
    exact h.hrg (by rw [hrv]; exact e.symm)
  have hsz2 := hg2.size
  simp at hsz2 hb2
  have hone : rv.oneCell' = true := by
    obtain ⟨sa, cap, rfl, _⟩ := ho2.slice
    rfl
  refine go_p rfl (pr_basic rfl) ?_
  refine sp ?_
  refine go_store rfl rfl (st_at hs2 (by simp) hone) ?_
  repeat (first | refine sp ?_ | (refine is_load ?_; refine ld ?_) | (refine is_store ?_; refine sr ?_) | (refine is_alloc ?_; refine al ?_) | (refine is_box ?_; refine bx ?_) | (refine isl_load ?_; refine ldl ?_) | (refine isl_store ?_; refine srl ?_) | (refine isl_alloc ?_; refine all' ?_) | (refine isl_box ?_; refine bxl ?_) | refine dr Try.follows ?_)
  have hrb : ∀ b, rv.ownBlock = some b → q.rv.ownBlock = some b ∨ w.heap.size ≤ b := fun b hb => by
    rcases hb2 b hb with h | h
    · left; rw [hrv]; exact h
    · right; have := hx.size; omega
  refine go_ret1 rfl rfl ⟨_, rfl, rfl, rv, ⟨?_, ?_, ?_, ?_, ?_, hwu⟩, hrb, ?_⟩
  · exact hs2.setRow _
  · exact hu2.setRow_ne n1 _
  · exact hg3.setRow_ne n2 _
  · have e : (A.unput i).rel = A.rel ++ [i] := rfl
    rw [e, List.map_append, List.length_append]
    refine Own.of_heap ho2 fun g hg => setRow_other _ _ _ _ fun e => ?_
    obtain ⟨_, C, hat⟩ := ho2.block_lt hg
    exact hs2.ne hat (by decide) e.symm
  · intro e
    rcases hb2 _ e with h3 | h3
    · exact h.hrg (by rw [hrv]; exact h3)
    · have h4 : w1.heap.size ≤ q.gb := h3
      have := hg1.lt; omega
  · refine ⟨?_, ?_, ?_, ?_, ?_⟩
    · exact hg2.os.trans hx.os
    · exact hg2.tape.trans hx.tape
    · exact hg2.output.trans hx.output
    · have := hx.size; simp; omega
    · intro b hb hS
      have hb1 : b < w1.heap.size := Nat.lt_of_lt_of_le hb hx.size
      rw [setRow_other _ _ _ _ (fun e => hS (Or.inl e)), hg2.block b (by simpa using hb1) (fun e => hS (Or.inr (Or.inr (by rw [hrv]; exact e.symm)))), setRow_other _ _ _ _ (fun e => hS (Or.inr (Or.inl e)))]
      exact hx.block b hb id

end Go.Proofs.Ytapocbahkeoeoaa
