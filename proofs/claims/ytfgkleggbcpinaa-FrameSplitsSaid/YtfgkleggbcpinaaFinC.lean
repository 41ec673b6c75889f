/-
  Opening an argument that is a slice of slices of bytes.
-/
import Derived.Test.YtfgkleggbcpinaaFinB
import Derived.Test.YtfgkleggbcpinaaF19
import Derived.Deep.Matrix
set_option linter.unusedVariables false
namespace Go.Proofs.Ytfgkleggbcpinaa
open Go.Vc Go.ChangeShapes Go.WideShapes Go.ChangeAt Go.RowKit

theorem sp_none {W : World} {a : Addr} {v : Value} (h : W.cell? (a.add 0) = some v) : a = ⟨a.block, a.off, none⟩ := by
  obtain ⟨b, o, sp⟩ := a
  have e : (⟨b, o, sp⟩ : Addr).add 0 = ⟨b, o, sp⟩ := rfl
  rw [e] at h
  cases sp with
  | none => rfl
  | some x =>
    simp only [World.cell?] at h
    split at h
    · simp at h
    · cases h

theorem open_rows {H : Type} {enc : TypeId × Value → H} {P : Program} {W : World} {base : Nat} {t e q : TypeId} {v : Value} {d : DataW H} {ps : List MemPlace}
    (ht : P.underlying t = some (.slice e)) (he : P.underlying e = some (.slice q)) (hq : P.underlying q = some (.int .u8)) (ce : P.cellsOf e = 1) (cq : P.cellsOf q = 1)
    (hv : Value.okWide P W .any base t v) (h : DataW.Trod enc P W 0 (fun _ => true) true t v d ps) :
    ∃ ms, BL W v ms ∧ ms.length ≤ 9223372036854775807 ∧ ∀ m ∈ ms, m.length ≤ 9223372036854775807 := by
  obtain ⟨a0, len, cap, rfl⟩ := okWide_slice ht hv
  obtain ⟨fuel, hf⟩ := h
  rcases Go.Deep.open_int_rows ht he hq ce cq hf with ⟨hcs, hx⟩ | ⟨a, len', cap', A, L, C, Z, hcs, _, hl, hm, hx, hcell⟩
  · simp only [Value.cells, List.cons.injEq, Value.slice.injEq, and_true] at hcs
    obtain ⟨rfl, rfl, rfl⟩ := hcs
    exact ⟨[], ⟨none, 0, [], rfl, Nat.le_refl _, fun j u h => by simp at h, rfl, fun i u l h => by simp at h⟩, by simp, by simp⟩
  simp only [Value.cells, List.cons.injEq, Value.slice.injEq, and_true] at hcs
  obtain ⟨rfl, rfl, rfl⟩ := hcs
  have hlen : ((List.range len).map fun r => ((Z r).take (L r)).map fun z => BitVec.ofInt 8 z).length = len := by simp
  have hml : ∀ r, r < len → (((Z r).take (L r)).map fun z => BitVec.ofInt 8 z).length = L r := fun r hr => by
    obtain ⟨_, h1, _, h3, _⟩ := hcell r (by omega)
    simp; omega
  have hvsl : ((List.range len).map fun r => Value.slice (A r) (L r) (C r)).length = len := by simp
  refine ⟨(List.range len).map fun r => ((Z r).take (L r)).map fun z => BitVec.ofInt 8 z, ⟨some a, cap, (List.range len).map fun r => .slice (A r) (L r) (C r), by rw [hlen], by rw [hlen]; exact hl, ?_, by rw [hlen, hvsl], ?_⟩, by rw [hlen]; unfold maxLen at hm; omega, ?_⟩
  · intro j u hj
    have hjl : j < len := by
      have := (List.getElem?_eq_some_iff.1 hj).1
      rwa [hvsl] at this
    simp only [List.getElem?_map, List.getElem?_range hjl, Option.map_some, Option.some.injEq] at hj
    subst hj
    have e := sp_none (hcell 0 (by omega)).1
    refine ⟨a.block, a.off, by rw [← e], ?_⟩
    have h1 := (hcell j (by omega)).1
    rw [e, addr_add] at h1
    exact h1
  · intro i u l hu hl'
    have hil : i < len := by
      have := (List.getElem?_eq_some_iff.1 hu).1
      rwa [hvsl] at this
    simp only [List.getElem?_map, List.getElem?_range hil, Option.map_some, Option.some.injEq] at hu hl'
    subst hu; subst hl'
    obtain ⟨_, h1, h2, h3, h4, h5, h6⟩ := hcell i (by omega)
    refine ⟨A i, C i, by rw [hml i hil], by rw [hml i hil]; exact h1, ?_⟩
    intro j u hj
    have hjl : j < L i := by
      have := (List.getElem?_eq_some_iff.1 hj).1
      rwa [List.length_map, hml i hil] at this
    cases hA : A i with
    | none => have := h5 hA; omega
    | some a' =>
      have h7 := (h6 a' hA).2
      have e := sp_none (h7 0 (by omega))
      refine ⟨a'.block, a'.off, by rw [← e], ?_⟩
      have h8 := h7 j (by omega)
      rw [e, addr_add] at h8
      rw [h8]
      have hjz : j < (Z i).length := by omega
      simp [hjl, hjz] at hj
      rw [← hj, List.getD_eq_getElem?_getD, List.getElem?_eq_getElem hjz]
      exact congrArg some (u8_of (h4 _ (List.getElem_mem hjz)))
  · intro m hmm
    simp only [List.mem_map, List.mem_range] at hmm
    obtain ⟨r, hr, rfl⟩ := hmm
    have := hml r hr
    rw [this]
    obtain ⟨_, h1, h2, _⟩ := hcell r (by omega)
    unfold maxLen at h2; omega
end Go.Proofs.Ytfgkleggbcpinaa
