/-
  The contracts of the arena in the form that its callers use; the arena's example.
-/
import Derived.Test.YtapocbahkeoeoaaS7
set_option linter.unusedVariables false
namespace Go.Proofs.Ytapocbahkeoeoaa
open Go.Vc

/-- The arena at block 'p', its other blocks by 'q'. -/
def ArP (w : World) (lo p : Nat) (q : AP) (A : AR) : Prop := q.p = p ∧ ArAt w lo q A

theorem ArP.fr {w w' : World} {lo p : Nat} {q : AP} {A : AR} {S : Nat → Prop} (h : ArP w lo p q A) (f : Fr S w w') (hS : ∀ b, q.fp b → ¬ S b) : ArP w' lo p q A := ⟨h.1, h.2.fr f hS⟩
theorem ArP.ext {w w' : World} {lo p : Nat} {q : AP} {A : AR} (h : ArP w lo p q A) (f : Ext w w') : ArP w' lo p q A := ⟨h.1, h.2.ext f⟩
theorem ArP.fpp {w : World} {lo p : Nat} {q : AP} {A : AR} (h : ArP w lo p q A) : q.fp p := by rw [← h.1]; simp [AP.fp]
theorem ArP.wf {w : World} {lo p : Nat} {q : AP} {A : AR} (h : ArP w lo p q A) : Wf A := h.2.sl.wf
theorem ArP.ok {w : World} {lo p : Nat} {q : AP} {A : AR} (h : ArP w lo p q A) : NdOk A := h.2.ok
theorem ArP.lt {w : World} {lo p : Nat} {q : AP} {A : AR} (h : ArP w lo p q A) : ∀ b, q.fp b → b < w.heap.size := h.2.fp_lt

abbrev ptr (p : Nat) : Value := .pointer (some ⟨p, 0, none⟩)

section
variable (w : World) (lo p : Nat) (q : AP) (A : AR)

theorem p_New (n : Nat) (h1 : 1 ≤ n) (h2 : n ≤ 65536) :
    Calls Try.prog 15 [.int .i64 (n : Int)].toArray w (Ret fun r w' => ∃ p q, r = .tuple #[ptr p, .int .i64 0] ∧ ArP w' w.heap.size p q (AR.new n) ∧ (∀ b, q.fp b → w.heap.size ≤ b) ∧ Ext w w') := by
  refine (c_New n w h1 h2).mono ?_
  rintro e w' ⟨v, rfl, q, rfl, ha, hr, hx⟩
  refine ⟨_, rfl, q.p, q, rfl, ⟨rfl, ha⟩, ?_, hx⟩
  have := ha.los
  rintro b (rfl | rfl | rfl | rfl | rfl | rfl | hb)
  · exact this.1
  · exact this.2.1
  · exact this.2.2.1
  · exact this.2.2.2.1
  · exact this.2.2.2.2.1
  · exact this.2.2.2.2.2
  · rw [hr] at hb; cases hb

theorem p_Make (k v : Int) (l r : Nat) (h : ArP w lo p q A) (hl : l < 4294967296) (hr : r < 4294967296) :
    Calls Try.prog 17 [ptr p, .int .i64 k, .int .i64 v, .int .u32 (l : Int), .int .u32 (r : Int)].toArray w (Ret fun x w' =>
      x = .tuple #[.int .u32 (A.makeI k v l r : Int), .int .i64 (A.makeE k v l r)] ∧ ∃ q', ArP w' lo p q' (A.make k v l r) ∧ (∀ b, q'.fp b → q.fp b ∨ w.heap.size ≤ b) ∧ Fr q.fp w w') := by
  obtain ⟨rfl, h⟩ := h
  refine (c_Make w lo q A k v l r h hl hr).mono ?_
  rintro e w' ⟨x, rfl, rfl, rv, ha, hb, hf⟩
  refine ⟨_, rfl, rfl, { q with rv := rv }, ⟨rfl, ha⟩, ?_, hf⟩
  intro b hfb
  left
  unfold AP.fp at hfb ⊢
  simp only [hb] at hfb
  exact hfb

theorem p_Node (i : Nat) (h : ArP w lo p q A) (hi : i < 4294967296) :
    Calls Try.prog 40 [ptr p, .int .u32 (i : Int)].toArray w (Ret fun r w' => r = .tuple #[.agg ⟨(A.nodeOf i).cells⟩, .bool (A.used i)] ∧ ArP w' lo p q (A.read i) ∧ Fr (fun b => b = p) w w') := by
  obtain ⟨rfl, h⟩ := h
  refine (c_Node w lo q A i h hi).mono ?_
  rintro e w' ⟨x, rfl, rfl, ha, hf⟩
  exact ⟨_, rfl, rfl, ⟨rfl, ha⟩, hf⟩

theorem p_Size (i : Nat) (h : ArP w lo p q A) (hi : i < 4294967296) :
    Calls Try.prog 19 [ptr p, .int .u32 (i : Int)].toArray w (Ret fun r w' => r = .int .i64 (A.sizeOf i) ∧ ArP w' lo p q (A.read i) ∧ Fr (fun b => b = p) w w') := by
  obtain ⟨rfl, h⟩ := h
  refine (c_Size w lo q A i h hi).mono ?_
  rintro e w' ⟨x, rfl, rfl, ha, hf⟩
  exact ⟨_, rfl, rfl, ⟨rfl, ha⟩, hf⟩

theorem p_Count (i : Nat) (h : ArP w lo p q A) (hi : i < 4294967296) :
    Calls Try.prog 52 [ptr p, .int .u32 (i : Int)].toArray w (Ret fun r w' => r = .int .i64 (A.countOf i) ∧ Ext w w') := by
  obtain ⟨rfl, h⟩ := h
  exact c_Count w lo q A i h hi

theorem p_Generation (i : Nat) (h : ArP w lo p q A) (hi : i < 4294967296) :
    Calls Try.prog 53 [ptr p, .int .u32 (i : Int)].toArray w (Ret fun r w' => r = .int .u32 (A.genOf i : Int) ∧ Ext w w') := by
  obtain ⟨rfl, h⟩ := h
  exact c_Generation w lo q A i h hi

theorem p_Free (h : ArP w lo p q A) :
    Calls Try.prog 18 [ptr p].toArray w (Ret fun r w' => r = .int .i64 (A.free : Int) ∧ Ext w w') := by
  obtain ⟨rfl, h⟩ := h
  exact c_Free w lo q A h

theorem p_Capacity (h : ArP w lo p q A) :
    Calls Try.prog 33 [ptr p].toArray w (Ret fun r w' => r = .int .i64 (A.cap : Int) ∧ w' = w) := by
  obtain ⟨rfl, h⟩ := h
  exact c_Capacity w lo q A h

theorem p_Reads (h : ArP w lo p q A) :
    Calls Try.prog 34 [ptr p].toArray w (Ret fun r w' => r = .int .u64 (A.reads : Int) ∧ w' = w) := by
  obtain ⟨rfl, h⟩ := h
  exact c_Reads w lo q A h

theorem p_Retain (i : Nat) (h : ArP w lo p q A) (hi : i < 4294967296) :
    Calls Try.prog 45 [ptr p, .int .u32 (i : Int)].toArray w (Ret fun r w' => r = .int .i64 (A.retainE i) ∧ ArP w' lo p q (A.retain i) ∧ Fr q.fp w w') := by
  obtain ⟨rfl, h⟩ := h
  refine (c_Retain w lo q A i h hi).mono ?_
  rintro e w' ⟨x, rfl, rfl, ha, hf⟩
  exact ⟨_, rfl, rfl, ⟨rfl, ha⟩, hf.mono fun b e => by subst e; simp [AP.fp]⟩
end

end Go.Proofs.Ytapocbahkeoeoaa
