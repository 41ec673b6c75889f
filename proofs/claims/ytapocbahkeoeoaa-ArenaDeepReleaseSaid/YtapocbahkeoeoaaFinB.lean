/-
  Opening an argument that is a slice of bytes.
-/
import Derived.Test.YtapocbahkeoeoaaFin
import Derived.Test.YtapocbahkeoeoaaF1
set_option linter.unusedVariables false
namespace Go.Proofs.Ytapocbahkeoeoaa
open Go.Vc Go.ChangeShapes Go.WideShapes Go.ChangeAt Go.RowKit

theorem u8_of {z : Int} (h : (Lit.int .u8 z).wf = true) : Value.int .u8 z = u8 (BitVec.ofInt 8 z) := by
  have hz : 0 ≤ z ∧ z ≤ 255 := by simpa [Lit.wf, IntKind.min, IntKind.max, IntKind.signed, IntKind.bits] using h
  congr 1
  rw [BitVec.toNat_ofInt]
  omega

theorem u32_ex {a : Int} (h : (Lit.int .u32 a).wf = true) : ∃ c : BitVec 32, a = (c.toNat : Int) := by
  have hz : 0 ≤ a ∧ a ≤ 4294967295 := by simpa [Lit.wf, IntKind.min, IntKind.max, IntKind.signed, IntKind.bits] using h
  exact ⟨BitVec.ofInt 32 a, by rw [BitVec.toNat_ofInt]; omega⟩
theorem i64_wf {a : Int} (h : (Lit.int .i64 a).wf = true) : -9223372036854775808 ≤ a ∧ a ≤ 9223372036854775807 := by
  simpa [Lit.wf, IntKind.min, IntKind.max, IntKind.signed, IntKind.bits] using h
theorem u8_ex {a : Int} (h : (Lit.int .u8 a).wf = true) : ∃ c : BitVec 8, a = (c.toNat : Int) := by
  have hz : 0 ≤ a ∧ a ≤ 255 := by simpa [Lit.wf, IntKind.min, IntKind.max, IntKind.signed, IntKind.bits] using h
  exact ⟨BitVec.ofInt 8 a, by rw [BitVec.toNat_ofInt]; omega⟩

theorem open_bytes {H : Type} {enc : TypeId × Value → H} {P : Program} {W : World} {base : Nat} {t e : TypeId} {v : Value} {d : DataW H} {ps : List MemPlace}
    (ht : P.underlying t = some (.slice e)) (he : P.underlying e = some (.int .u8)) (hc : P.cellsOf e = 1)
    (hv : Value.okWide P W .any base t v) (h : DataW.Trod enc P W 0 (fun _ => true) true t v d ps) : ∃ l, By W v l ∧ l.length ≤ 9223372036854775807 := by
  obtain ⟨a0, len, cap, rfl⟩ := okWide_slice ht hv
  obtain ⟨fuel, hf⟩ := h
  rcases open_ints ht he hc hf with ⟨hcs, hx⟩ | ⟨a, len', cap', zs, hcs, _, hl, hm, hz, hx, hcell, hwz⟩
  · simp only [Value.cells, List.cons.injEq, Value.slice.injEq, and_true] at hcs
    obtain ⟨rfl, rfl, rfl⟩ := hcs
    exact ⟨[], By.nil W, by simp⟩
  · simp only [Value.cells, List.cons.injEq, Value.slice.injEq, and_true] at hcs
    obtain ⟨rfl, rfl, rfl⟩ := hcs
    simp only [if_true] at hz
    have hlen : ((zs.take len).map fun z => BitVec.ofInt 8 z).length = len := by simp; omega
    refine ⟨(zs.take len).map fun z => BitVec.ofInt 8 z, ⟨some a, cap, by rw [hlen], by rw [hlen]; exact hl, ?_⟩, by rw [hlen]; unfold maxLen at hm; omega⟩
    intro j u hj
    have hjl : j < len := by
      rcases Nat.lt_or_ge j len with h | h
      · exact h
      · rw [List.getElem?_eq_none (by simp; omega)] at hj; cases hj
    have hjz : j < zs.length := by omega
    have h1 := hcell j hjz
    have h2 : u = .int .u8 (zs.getD j 0) := by
      simp [hjl, hjz] at hj
      rw [← hj, List.getD_eq_getElem?_getD, List.getElem?_eq_getElem hjz]
      exact (u8_of (hwz _ (List.getElem_mem hjz))).symm
    obtain ⟨b, o, sp⟩ := a
    have hsp : sp = none := by
      have h0 := hcell 0 (by omega)
      have : (⟨b, o, sp⟩ : Addr).add 0 = ⟨b, o, sp⟩ := rfl
      rw [this] at h0
      cases sp with
      | none => rfl
      | some x =>
        simp only [World.cell?] at h0
        split at h0
        · simp at h0
        · cases h0
    subst hsp
    refine ⟨b, o, rfl, ?_⟩
    rw [addr_add] at h1
    rw [h1, h2]

end Go.Proofs.Ytapocbahkeoeoaa
