/-
  The program's allocator of slots, in memory; what its readers return.
-/
import Derived.Test.YtapocbahkeoeoaaS1
set_option linter.unusedVariables false
namespace Go.Vc

theorem At.ne {w : World} {b b' : Nat} {C C' : List Value} {T T' : TypeId} (h : At w b C T) (h' : At w b' C' T') (hT : T ≠ T') : b ≠ b' := by
  intro e
  subst e
  exact hT (h.uniq h').2

theorem Own.of_heap {w w' : World} {lo : Nat} {e : TypeId} {m n : Nat} {v : Value} {xs : List Value} (h : Own w lo e m v n xs) (hh : ∀ g, v.ownBlock = some g → w'.heap[g]? = w.heap[g]?) : Own w' lo e m v n xs := by
  refine ⟨h.1, ?_⟩
  rcases h.2 with h2 | ⟨g, cap, cur, hv, hb, hc, r⟩
  · exact Or.inl h2
  · subst hv
    exact Or.inr ⟨g, cap, cur, rfl, hb, (hh g rfl).trans hc, r⟩

theorem Own.block_lt {w : World} {lo : Nat} {e : TypeId} {m n : Nat} {v : Value} {xs : List Value} (h : Own w lo e m v n xs) {g : Nat} (hg : v.ownBlock = some g) : g < w.heap.size ∧ ∃ C : List Value, At w g C e := by
  rcases h.2 with ⟨rfl, _⟩ | ⟨g', cap, cur, rfl, _, hh, _⟩
  · cases hg
  · simp only [Value.ownBlock, Option.some.injEq] at hg
    subst hg
    exact ⟨(Array.getElem?_eq_some_iff.1 hh).1, cur.toList, ⟨by simpa using hh⟩⟩

end Go.Vc
namespace Go.Proofs.Ytapocbahkeoeoaa
open Go.Vc

/-- Where an arena lies. -/
structure AP where
  p : Nat
  s : Nat
  nb : Nat
  cb : Nat
  ub : Nat
  gb : Nat
  rv : Value

def AP.fp (q : AP) (b : Nat) : Prop := b = q.p ∨ b = q.s ∨ b = q.nb ∨ b = q.cb ∨ b = q.ub ∨ b = q.gb ∨ q.rv.ownBlock = some b

def arC (q : AP) (n : Nat) (reads : Nat) : List Value := [.pointer (some ⟨q.s, 0, none⟩), .slice (some ⟨q.nb, 0, none⟩) (n + 1) (n + 1), .slice (some ⟨q.cb, 0, none⟩) (n + 1) (n + 1), .int .u64 (reads : Int)]
def slC (q : AP) (n : Nat) (fresh : Nat) : List Value := [.slice (some ⟨q.ub, 0, none⟩) (n + 1) (n + 1), .slice (some ⟨q.gb, 0, none⟩) (n + 1) (n + 1), q.rv, .int .u32 (fresh : Int)]

/-- The part of an arena that the allocator holds. -/
structure SlAt (w : World) (lo : Nat) (q : AP) (A : AR) : Prop where
  hs : At w q.s (slC q A.cap A.fresh) 115
  hu : At w q.ub (cellsF (fun i => [.bool (A.used i)]) (A.cap + 1)) 4
  hg : At w q.gb (cellsF (fun i => [.int .u32 (A.gen i : Int)]) (A.cap + 1)) 27
  hr : Own w lo 27 1 q.rv A.rel.length (A.rel.map fun (i : Nat) => Value.int .u32 (i : Int))
  hrg : q.rv.ownBlock ≠ some q.gb
  wf : Wf A

structure ArAt (w : World) (lo : Nat) (q : AP) (A : AR) : Prop where
  hp : At w q.p (arC q A.cap A.reads) 97
  hn : At w q.nb (cellsF (fun i => (A.node i).cells) (A.cap + 1)) 50
  hc : At w q.cb (cellsF (fun i => [.int .i64 (A.cnt i)]) (A.cap + 1)) 3
  sl : SlAt w lo q A
  ok : NdOk A
  los : lo ≤ q.p ∧ lo ≤ q.s ∧ lo ≤ q.nb ∧ lo ≤ q.cb ∧ lo ≤ q.ub ∧ lo ≤ q.gb

theorem SlAt.fr {w w' : World} {lo : Nat} {q : AP} {A : AR} {S : Nat → Prop} (h : SlAt w lo q A) (f : Fr S w w') (hS : ∀ b, q.fp b → ¬ S b) : SlAt w' lo q A :=
  ⟨h.hs.fr f (hS _ (by simp [AP.fp])), h.hu.fr f (hS _ (by simp [AP.fp])), h.hg.fr f (hS _ (by simp [AP.fp])),
    h.hr.of_heap fun g hg => f.block g (h.hr.block_lt hg).1 (hS _ (by simp [AP.fp, hg])), h.hrg, h.wf⟩
theorem SlAt.ext {w w' : World} {lo : Nat} {q : AP} {A : AR} (h : SlAt w lo q A) (f : Ext w w') : SlAt w' lo q A := h.fr f fun _ _ => id
theorem ArAt.fr {w w' : World} {lo : Nat} {q : AP} {A : AR} {S : Nat → Prop} (h : ArAt w lo q A) (f : Fr S w w') (hS : ∀ b, q.fp b → ¬ S b) : ArAt w' lo q A :=
  ⟨h.hp.fr f (hS _ (by simp [AP.fp])), h.hn.fr f (hS _ (by simp [AP.fp])), h.hc.fr f (hS _ (by simp [AP.fp])), h.sl.fr f hS, h.ok, h.los⟩
theorem ArAt.ext {w w' : World} {lo : Nat} {q : AP} {A : AR} (h : ArAt w lo q A) (f : Ext w w') : ArAt w' lo q A := h.fr f fun _ _ => id

theorem ArAt.fp_lt {w : World} {lo : Nat} {q : AP} {A : AR} (h : ArAt w lo q A) : ∀ b, q.fp b → b < w.heap.size := by
  rintro b (rfl | rfl | rfl | rfl | rfl | rfl | hb)
  · exact h.hp.lt
  · exact h.sl.hs.lt
  · exact h.hn.lt
  · exact h.hc.lt
  · exact h.sl.hu.lt
  · exact h.sl.hg.lt
  · exact (h.sl.hr.block_lt hb).1

theorem used_cell {w : World} {lo : Nat} {q : AP} {A : AR} (h : SlAt w lo q A) {i : Nat} (hi : i ≤ A.cap) : w.cell? ⟨q.ub, 0 + i, none⟩ = some (.bool (A.used i)) := by
  rw [Nat.zero_add]; exact h.hu.cell (one_get (by omega))
theorem gen_cell {w : World} {lo : Nat} {q : AP} {A : AR} (h : SlAt w lo q A) {i : Nat} (hi : i ≤ A.cap) : w.cell? ⟨q.gb, 0 + i, none⟩ = some (.int .u32 (A.gen i : Int)) := by
  rw [Nat.zero_add]; exact h.hg.cell (one_get (by omega))

theorem c_slAllocated (w : World) (lo : Nat) (q : AP) (A : AR) (i : Nat) (h : SlAt w lo q A) (hi : i < 4294967296) :
    Calls Try.prog 59 [.pointer (some ⟨q.s, 0, none⟩), .int .u32 (i : Int)].toArray w (Ret fun r w' => r = .bool (A.used i) ∧ Ext w w') := by
  have hwf := h.wf
  have hcap := hwf.capM
  have hs := h.hs
  unfold slC at hs
  refine calls_go Try.func59 rfl Try.ntmps59 (Nat.le_of_ble_eq_true rfl) ?_
  by_cases hic : i ≤ A.cap
  · have hc := used_cell h hic
    repeat (first | refine sp ?_ | (refine is_load ?_; refine ld ?_) | (refine is_store ?_; refine sr ?_) | (refine is_alloc ?_; refine al ?_) | (refine is_box ?_; refine bx ?_) | (refine isl_load ?_; refine ldl ?_) | (refine isl_store ?_; refine srl ?_) | (refine isl_alloc ?_; refine all' ?_) | (refine isl_box ?_; refine bxl ?_) | refine dr Try.follows ?_)
    exact go_ret1 rfl rfl ⟨_, rfl, rfl, by (repeat (first | exact Fr.refl _ _ | assumption | apply Fr.drewN | apply Fr.alloc | (apply Fr.transF; assumption) | (refine Fr.setRow ?_ _ (by first | exact Or.inr (by (first | omega | (simp; done) | (simp; omega))) | (exact Or.inl (by first | assumption | (simp; done)))))))⟩
  · have hu : A.used i = false := by
      cases e : A.used i with
      | false => rfl
      | true => have := hwf.uf i e; have := hwf.fr; omega
    rw [hu]
    repeat (first | refine sp ?_ | (refine is_load ?_; refine ld ?_) | (refine is_store ?_; refine sr ?_) | (refine is_alloc ?_; refine al ?_) | (refine is_box ?_; refine bx ?_) | (refine isl_load ?_; refine ldl ?_) | (refine isl_store ?_; refine srl ?_) | (refine isl_alloc ?_; refine all' ?_) | (refine isl_box ?_; refine bxl ?_) | refine dr Try.follows ?_)
    exact go_ret1 rfl rfl ⟨_, rfl, rfl, by (repeat (first | exact Fr.refl _ _ | assumption | apply Fr.drewN | apply Fr.alloc | (apply Fr.transF; assumption) | (refine Fr.setRow ?_ _ (by first | exact Or.inr (by (first | omega | (simp; done) | (simp; omega))) | (exact Or.inl (by first | assumption | (simp; done)))))))⟩

theorem c_slCapacity (w : World) (lo : Nat) (q : AP) (A : AR) (h : SlAt w lo q A) :
    Calls Try.prog 71 [.pointer (some ⟨q.s, 0, none⟩)].toArray w (Ret fun r w' => r = .int .i64 (A.cap : Int) ∧ w' = w) := by
  have hwf := h.wf
  have hcap := hwf.capM
  have hs := h.hs
  unfold slC at hs
  refine calls_go Try.func71 rfl Try.ntmps71 (Nat.le_of_ble_eq_true rfl) ?_
  repeat (first | refine sp ?_ | (refine is_load ?_; refine ld ?_) | (refine is_store ?_; refine sr ?_) | (refine is_alloc ?_; refine al ?_) | (refine is_box ?_; refine bx ?_) | (refine isl_load ?_; refine ldl ?_) | (refine isl_store ?_; refine srl ?_) | (refine isl_alloc ?_; refine all' ?_) | (refine isl_box ?_; refine bxl ?_) | refine dr Try.follows ?_)
  exact go_ret1 rfl rfl ⟨_, rfl, by congr 1; omega, rfl⟩

theorem nodup_len : ∀ (n : Nat) (l : List Nat), l.Nodup → (∀ x ∈ l, x < n) → l.length ≤ n
  | 0, l, _, h => by
    cases l with
    | nil => simp
    | cons x l => have := h x (by simp); omega
  | n + 1, l, hd, h => by
    by_cases hn : n ∈ l
    · have h1 := nodup_len n (l.erase n) (hd.erase n) (fun x hx => by
        have h2 := (hd.mem_erase_iff).1 hx
        have := h x h2.2
        omega)
      have h2 := List.length_erase_of_mem hn
      omega
    · have := nodup_len n l hd (fun x hx => by
        have h2 := h x hx
        have : x ≠ n := fun e => hn (e ▸ hx)
        omega)
      omega

theorem rel_le {A : AR} (h : Wf A) : A.rel.length ≤ A.fresh := by
  have h1 : A.rel.Nodup := h.nd
  have h2 : ∀ i ∈ A.rel, i - 1 < A.fresh := fun i hi => by have := h.rl i hi; omega
  have h3 : (A.rel.map (· - 1)).Nodup := by
    rw [List.nodup_iff_pairwise_ne] at h1 ⊢
    rw [List.pairwise_map]
    refine List.Pairwise.imp_of_mem ?_ h1
    intro a b ha hb hne e
    have := h.rl a ha
    have := h.rl b hb
    omega
  have h4 : (A.rel.map (· - 1)) ⊆ List.range A.fresh := fun x hx => by
    obtain ⟨i, hi, rfl⟩ := List.mem_map.1 hx
    exact List.mem_range.2 (h2 i hi)
  have := nodup_len A.fresh _ h3 (fun x hx => List.mem_range.1 (h4 hx))
  simpa using this

theorem c_slFree (w : World) (lo : Nat) (q : AP) (A : AR) (h : SlAt w lo q A) :
    Calls Try.prog 61 [.pointer (some ⟨q.s, 0, none⟩)].toArray w (Ret fun r w' => r = .int .i64 (A.free : Int) ∧ Ext w w') := by
  have hwf := h.wf
  have hcap := hwf.capM
  have hfr := hwf.fr
  have hrl := rel_le hwf
  have hs := h.hs
  unfold slC at hs
  obtain ⟨sa, cap, e, hcc, hrr⟩ := h.hr.slice
  rw [e] at hs
  refine calls_go Try.func61 rfl Try.ntmps61 (Nat.le_of_ble_eq_true rfl) ?_
  repeat (first | refine sp ?_ | (refine is_load ?_; refine ld ?_) | (refine is_store ?_; refine sr ?_) | (refine is_alloc ?_; refine al ?_) | (refine is_box ?_; refine bx ?_) | (refine isl_load ?_; refine ldl ?_) | (refine isl_store ?_; refine srl ?_) | (refine isl_alloc ?_; refine all' ?_) | (refine isl_box ?_; refine bxl ?_) | refine dr Try.follows ?_)
  refine gol_call rfl rfl (c_slCapacity (w.drewN 1) lo q A (h.ext (by (repeat (first | exact Fr.refl _ _ | assumption | apply Fr.drewN | apply Fr.alloc | (apply Fr.transF; assumption) | (refine Fr.setRow ?_ _ (by first | exact Or.inr (by (first | omega | (simp; done) | (simp; omega))) | (exact Or.inl (by first | assumption | (simp; done)))))))))) ?_
  rintro r w1 ⟨rfl, rfl⟩
  refine ⟨by (repeat (first | exact Fr.refl _ _ | assumption | apply Fr.drewN | apply Fr.alloc | (apply Fr.transF; assumption) | (refine Fr.setRow ?_ _ (by first | exact Or.inr (by (first | omega | (simp; done) | (simp; omega))) | (exact Or.inl (by first | assumption | (simp; done))))))), ?_⟩
  repeat (first | refine sp ?_ | (refine is_load ?_; refine ld ?_) | (refine is_store ?_; refine sr ?_) | (refine is_alloc ?_; refine al ?_) | (refine is_box ?_; refine bx ?_) | (refine isl_load ?_; refine ldl ?_) | (refine isl_store ?_; refine srl ?_) | (refine isl_alloc ?_; refine all' ?_) | (refine isl_box ?_; refine bxl ?_) | refine dr Try.follows ?_)
  exact go_ret1 rfl rfl ⟨_, rfl, by congr 1; unfold AR.free; omega, by (repeat (first | exact Fr.refl _ _ | assumption | apply Fr.drewN | apply Fr.alloc | (apply Fr.transF; assumption) | (refine Fr.setRow ?_ _ (by first | exact Or.inr (by (first | omega | (simp; done) | (simp; omega))) | (exact Or.inl (by first | assumption | (simp; done)))))))⟩

theorem c_slGeneration (w : World) (lo : Nat) (q : AP) (A : AR) (i : Nat) (h : SlAt w lo q A) (hi : i < 4294967296) :
    Calls Try.prog 81 [.pointer (some ⟨q.s, 0, none⟩), .int .u32 (i : Int)].toArray w (Ret fun r w' => r = .int .u32 ((if i ≤ A.cap then A.gen i else 0 : Nat) : Int) ∧ Ext w w') := by
  have hwf := h.wf
  have hcap := hwf.capM
  have hs := h.hs
  unfold slC at hs
  refine calls_go Try.func81 rfl Try.ntmps81 (Nat.le_of_ble_eq_true rfl) ?_
  by_cases hic : i ≤ A.cap
  · have hc := gen_cell h hic
    rw [if_pos hic]
    repeat (first | refine sp ?_ | (refine is_load ?_; refine ld ?_) | (refine is_store ?_; refine sr ?_) | (refine is_alloc ?_; refine al ?_) | (refine is_box ?_; refine bx ?_) | (refine isl_load ?_; refine ldl ?_) | (refine isl_store ?_; refine srl ?_) | (refine isl_alloc ?_; refine all' ?_) | (refine isl_box ?_; refine bxl ?_) | refine dr Try.follows ?_)
    exact go_ret1 rfl rfl ⟨_, rfl, rfl, by (repeat (first | exact Fr.refl _ _ | assumption | apply Fr.drewN | apply Fr.alloc | (apply Fr.transF; assumption) | (refine Fr.setRow ?_ _ (by first | exact Or.inr (by (first | omega | (simp; done) | (simp; omega))) | (exact Or.inl (by first | assumption | (simp; done)))))))⟩
  · rw [if_neg hic]
    repeat (first | refine sp ?_ | (refine is_load ?_; refine ld ?_) | (refine is_store ?_; refine sr ?_) | (refine is_alloc ?_; refine al ?_) | (refine is_box ?_; refine bx ?_) | (refine isl_load ?_; refine ldl ?_) | (refine isl_store ?_; refine srl ?_) | (refine isl_alloc ?_; refine all' ?_) | (refine isl_box ?_; refine bxl ?_) | refine dr Try.follows ?_)
    exact go_ret1 rfl rfl ⟨_, rfl, rfl, by (repeat (first | exact Fr.refl _ _ | assumption | apply Fr.drewN | apply Fr.alloc | (apply Fr.transF; assumption) | (refine Fr.setRow ?_ _ (by first | exact Or.inr (by (first | omega | (simp; done) | (simp; omega))) | (exact Or.inl (by first | assumption | (simp; done)))))))⟩

end Go.Proofs.Ytapocbahkeoeoaa
