/-
  Opening arguments that are records of integers, and slices of them.
-/
import Derived.Test.YtapocbahkeoeoaaFin
import Derived.Test.YtapocbahkeoeoaaRd
import Derived.Deep.Slices
set_option linter.unusedVariables false
namespace Go.Proofs.Ytapocbahkeoeoaa
open Go.Vc Go.ChangeShapes Go.WideShapes Go.ChangeAt Go.RowKit

theorem int_wf64 {a : Int} (h : (Lit.int .i64 a).wf = true) : -9223372036854775808 ≤ a ∧ a ≤ 9223372036854775807 := by
  simpa [Lit.wf, IntKind.min, IntKind.max, IntKind.signed, IntKind.bits] using h
theorem int_wfu64 {a : Int} (h : (Lit.int .u64 a).wf = true) : 0 ≤ a ∧ a ≤ 18446744073709551615 := by
  simpa [Lit.wf, IntKind.min, IntKind.max, IntKind.signed, IntKind.bits] using h
theorem int_wfu32 {a : Int} (h : (Lit.int .u32 a).wf = true) : 0 ≤ a ∧ a ≤ 4294967295 := by
  simpa [Lit.wf, IntKind.min, IntKind.max, IntKind.signed, IntKind.bits] using h

theorem addr_none {W : World} {a : Addr} {v : Value} (h : W.cell? (a.add 0) = some v) : a = ⟨a.block, a.off, none⟩ := by
  obtain ⟨b, o, sp⟩ := a
  have e : (⟨b, o, sp⟩ : Addr).add 0 = ⟨b, o, sp⟩ := rfl
  rw [e] at h
  cases sp with
  | none => rfl
  | some x =>
    simp only [World.cell?] at h
    split at h
    · simp at h
    · cases h

theorem cell_lt {w : World} {a : Addr} {v : Value} (h : w.cell? a = some v) : a.block < w.heap.size := by
  unfold World.cell? at h
  split at h
  · rename_i e; exact (Array.getElem?_eq_some_iff.1 e).1
  · cases h

def flatB (P : Program) : List Field → Nat → List IntKind → Bool
  | [], _, [] => true
  | f :: fs, o, k :: ks => (f.offset == o) && (P.cellsOf f.type == 1) && (match P.underlying f.type with
    | some (.int k') => sameKind k k'
    | _ => false) && flatB P fs (o + 1) ks
  | _, _, _ => false

def intsC : List IntKind → List Int → List Value
  | k :: ks, z :: zs => .int k z :: intsC ks zs
  | _, _ => []
def intsOk : List IntKind → List Int → Prop
  | k :: ks, z :: zs => (Lit.int k z).wf = true ∧ intsOk ks zs
  | [], [] => True
  | _, _ => False

theorem flat_open {H : Type} {enc : TypeId × Value → H} {P : Program} {W : World} {cs : List Value} {n : Nat} {xs : List (DataW H × List MemPlace)} : ∀ (fs : List Field) (o : Nat) (ks : List IntKind), flatB P fs o ks = true → o + ks.length ≤ cs.length →
    (∀ (i : Nat) (f : Field), fs[i]? = some f → ∃ y, DataW.trod enc P W 0 (fun _ => true) true n f.type ((cs.drop f.offset).take (P.cellsOf f.type)) = some y) →
    ∃ zs, intsOk ks zs ∧ (cs.drop o).take ks.length = intsC ks zs
  | [], o, [], _, _, _ => ⟨[], trivial, by simp [intsC]⟩
  | f :: fs, o, k :: ks, hB, hl, hf => by
    simp only [flatB, Bool.and_eq_true, beq_iff_eq] at hB
    obtain ⟨⟨⟨h1, h2⟩, h3⟩, h4⟩ := hB
    obtain ⟨y, hy⟩ := hf 0 f rfl
    simp only [List.length_cons] at hl
    obtain ⟨zs, hz, hd⟩ := flat_open (xs := xs) fs (o + 1) ks h4 (by omega) (fun i g hg => hf (i + 1) g hg)
    rw [h1, h2] at hy
    split at h3
    · rename_i k' hk
      have := sameKind_eq h3
      subst this
      obtain ⟨z, hc, _, hw⟩ := DataW.trod_int hk hy
      have hlt : o < cs.length := by omega
      have e1 : cs.drop o = cs[o] :: cs.drop (o + 1) := List.drop_eq_getElem_cons hlt
      refine ⟨z :: zs, ⟨hw, hz⟩, ?_⟩
      rw [e1] at hc ⊢
      simp only [List.take_succ_cons, List.take_zero, List.cons.injEq, and_true] at hc
      simp only [List.length_cons, List.take_succ_cons, intsC]
      rw [hc, hd]
    · cases h3
  | [], _, _ :: _, h, _, _ => by simp [flatB] at h
  | _ :: _, _, [], h, _, _ => by simp [flatB] at h

/-- What a type's cells are. -/
def ElT {α : Type} (P : Program) (e : TypeId) (encv : α → List Value) (ok : α → Prop) : Prop :=
  ∀ (H : Type) (enc : TypeId × Value → H) (W : World) (n : Nat) (cs : List Value) (x : DataW H × List MemPlace), DataW.trod enc P W 0 (fun _ => true) true n e cs = some x → ∃ a, cs = encv a ∧ ok a

theorem elT_ints {α : Type} {P : Program} {e : TypeId} {fs : Array Field} {ks : List IntKind} {encv : α → List Value} {ok : α → Prop} (he : P.underlying e = some (.struct fs)) (hB : flatB P fs.toList 0 ks = true) (hc : P.cellsOf e = ks.length)
    (ha : ∀ zs, intsOk ks zs → ∃ a, intsC ks zs = encv a ∧ ok a) : ElT P e encv ok := by
  intro H enc W n cs x h
  obtain ⟨xs, k, hk, hxy, hl, hxl, hf⟩ := DataW.trod_struct he h
  obtain ⟨zs, hz, hd⟩ := flat_open (xs := xs) (enc := enc) (W := W) (cs := cs) (n := k) fs.toList 0 ks hB (by omega) (fun i f hif => by
    have hif' : fs[i]? = some f := by simpa using hif
    have hi : i < xs.length := by rw [hxl]; exact (Array.getElem?_eq_some_iff.1 hif').1
    exact ⟨xs[i], by rw [hf i f hif', List.getElem?_eq_getElem hi]⟩)
  rw [List.drop_zero, List.take_of_length_le (by omega)] at hd
  obtain ⟨a, e1, e2⟩ := ha zs hz
  exact ⟨a, hd.trans e1, e2⟩

theorem open_recs {α : Type} {H : Type} {enc : TypeId × Value → H} {P : Program} {W : World} {base : Nat} {t e : TypeId} {m : Nat} {v : Value} {d : DataW H} {ps : List MemPlace} {encv : α → List Value} {ok : α → Prop}
    (ht : P.underlying t = some (.slice e)) (hm : P.cellsOf e = m) (hm0 : 0 < m) (hel : ElT P e encv ok) (hlen : ∀ a, (encv a).length = m)
    (hv : Value.okWide P W .any base t v) (h : DataW.Trod enc P W 0 (fun _ => true) true t v d ps) : ∃ l, Rd W 0 v encv l ∧ l.length ≤ 9223372036854775807 ∧ ∀ a ∈ l, ok a := by
  obtain ⟨a0, len, cap, rfl⟩ := okWide_slice ht hv
  obtain ⟨fuel, hf⟩ := h
  rcases Go.Deep.open_slice ht hf with ⟨hcs, hx⟩ | ⟨a, len', cap', m', n, D, Pl, hcs, hb, hl, hcm, hmm, _, hx⟩
  · simp only [Value.cells, List.cons.injEq, Value.slice.injEq, and_true] at hcs
    obtain ⟨rfl, rfl, rfl⟩ := hcs
    exact ⟨[], Rd.nil W 0 encv, by simp, by simp⟩
  simp only [Value.cells, List.cons.injEq, Value.slice.injEq, and_true] at hcs
  obtain ⟨rfl, rfl, rfl⟩ := hcs
  simp only [if_true] at hmm
  have hmm' := hmm.symm
  subst hmm'
  have each : ∀ i, i < len → ∃ x : α, ok x ∧ ∀ j u, (encv x)[j]? = some u → W.cell? ((a.add (i * m)).add j) = some u := by
    intro i hi
    obtain ⟨cs', h1, h2⟩ := hx i (by omega)
    obtain ⟨x, rfl, hok⟩ := hel _ _ _ _ _ _ h2
    rw [hm] at h1
    obtain ⟨_, hlen', hcell⟩ := World.cells?_some h1
    refine ⟨x, hok, fun j u hj => ?_⟩
    have hjm : j < m := by rw [← hlen x]; exact (List.getElem?_eq_some_iff.1 hj).1
    rw [hcell j hjm, hj]
  rcases Nat.eq_zero_or_pos len with h0 | hpos
  · subst h0
    refine ⟨[], ⟨some a, cap, rfl, Nat.zero_le _, fun j u h => by simp at h, fun b o e hn => absurd rfl hn⟩, by simp, by simp⟩
  have : Inhabited α := ⟨(each 0 hpos).choose⟩
  obtain ⟨f, hfx⟩ := Go.Deep.choose_lt each
  obtain ⟨u0, hu0⟩ : ∃ u, (encv (f 0))[0]? = some u := ⟨_, List.getElem?_eq_getElem (by rw [hlen]; exact hm0)⟩
  have e0 := (hfx 0 hpos).2 0 u0 hu0
  have ea : a = ⟨a.block, a.off, none⟩ := by
    have e : (a.add (0 * m)).add 0 = a.add 0 := by rw [Nat.zero_mul]; unfold Addr.add; simp
    rw [e] at e0
    exact addr_none e0
  have hl2 : ((List.range len).map f).length = len := by simp
  refine ⟨(List.range len).map f, ⟨some a, cap, by rw [hl2], by rw [hl2]; exact hl, fun j u hj => ?_, fun b o e _ => ⟨Nat.zero_le _, ?_⟩⟩, by rw [hl2]; unfold maxLen at hcm; omega, fun x hx => ?_⟩
  · refine ⟨a.block, a.off, by rw [← ea], ?_⟩
    have hj' := hj
    rw [show List.flatMap encv ((List.range len).map f) = cellsF (fun i => encv (f i)) len by unfold cellsF; rw [List.flatMap_map]] at hj'
    have hjl : j < len * m := by
      have := (List.getElem?_eq_some_iff.1 hj').1
      rwa [cellsF_len (fun i => hlen (f i))] at this
    have hdm := Nat.div_add_mod j m
    have hlt : j % m < m := Nat.mod_lt _ hm0
    have hdl : j / m < len := by
      rw [Nat.div_lt_iff_lt_mul hm0]; exact hjl
    obtain ⟨u1, hu1⟩ : ∃ u, (encv (f (j / m)))[j % m]? = some u := ⟨_, List.getElem?_eq_getElem (by rw [hlen]; exact hlt)⟩
    have e1 := cellsF_get (f := fun i => encv (f i)) (fun i => hlen (f i)) hdl hu1
    rw [show j / m * m + j % m = j by rw [Nat.mul_comm]; exact hdm] at e1
    rw [e1] at hj'
    have hjj := Option.some.inj hj'
    subst hjj
    have h2 := (hfx (j / m) hdl).2 _ _ hu1
    rw [ea, addr_add, addr_add] at h2
    rw [← h2]
    congr 2
    rw [Nat.mul_comm]; omega
  · rw [ea, addr_add, addr_add] at e0
    have e' := Option.some.inj e
    have hb' : b = a.block := by rw [e']
    rw [hb']
    exact cell_lt (a := ⟨a.block, _, none⟩) e0
  · obtain ⟨i, hi, rfl⟩ := List.mem_map.1 hx
    exact (hfx i (List.mem_range.1 hi)).1

end Go.Proofs.Ytapocbahkeoeoaa
