/-
  Opening arguments that are dumps, lists of slots, and lists of numbers.
-/
import Derived.Test.YtapocbahkeoeoaaFinR
import Derived.Test.YtapocbahkeoeoaaAu5
import Derived.ChangeSame
set_option linter.unusedVariables false
namespace Go.Proofs.Ytapocbahkeoeoaa
open Go.Vc Go.ChangeShapes Go.WideShapes Go.ChangeAt Go.RowKit

theorem open_recsC {α : Type} {H : Type} {enc : TypeId × Value → H} {P : Program} {W : World} {t e : TypeId} {m fuel : Nat} {cs : List Value} {x : DataW H × List MemPlace} {encv : α → List Value} {ok : α → Prop}
    (ht : P.underlying t = some (.slice e)) (hm : P.cellsOf e = m) (hm0 : 0 < m) (hel : ElT P e encv ok) (hlen : ∀ a, (encv a).length = m)
    (hf : DataW.trod enc P W 0 (fun _ => true) true fuel t cs = some x) : ∃ v l, cs = [v] ∧ Rd W 0 v encv l ∧ l.length ≤ 9223372036854775807 ∧ ∀ a ∈ l, ok a := by
  rcases Go.Deep.open_slice ht hf with ⟨hcs, hx⟩ | ⟨a, len, cap, m', n, D, Pl, hcs, hb, hl, hcm, hmm, _, hx⟩
  · exact ⟨_, [], hcs, Rd.nil W 0 encv, by simp, by simp⟩
  simp only [if_true] at hmm
  have hmm' := hmm.symm
  subst hmm'
  have each : ∀ i, i < len → ∃ x : α, ok x ∧ ∀ j u, (encv x)[j]? = some u → W.cell? ((a.add (i * m)).add j) = some u := by
    intro i hi
    obtain ⟨cs', h1, h2⟩ := hx i (by omega)
    obtain ⟨x, rfl, hok⟩ := hel _ _ _ _ _ _ h2
    rw [hm] at h1
    obtain ⟨_, hlen', hcell⟩ := World.cells?_some h1
    refine ⟨x, hok, fun j u hj => ?_⟩
    have hjm : j < m := by rw [← hlen x]; exact (List.getElem?_eq_some_iff.1 hj).1
    rw [hcell j hjm, hj]
  rcases Nat.eq_zero_or_pos len with h0 | hpos
  · subst h0
    refine ⟨_, [], hcs, ⟨some a, cap, rfl, Nat.zero_le _, fun j u h => by simp at h, fun b o e hn => absurd rfl hn⟩, by simp, by simp⟩
  have : Inhabited α := ⟨(each 0 hpos).choose⟩
  obtain ⟨f, hfx⟩ := Go.Deep.choose_lt each
  obtain ⟨u0, hu0⟩ : ∃ u, (encv (f 0))[0]? = some u := ⟨_, List.getElem?_eq_getElem (by rw [hlen]; exact hm0)⟩
  have e0 := (hfx 0 hpos).2 0 u0 hu0
  have ea : a = ⟨a.block, a.off, none⟩ := by
    have e : (a.add (0 * m)).add 0 = a.add 0 := by rw [Nat.zero_mul]; unfold Addr.add; simp
    rw [e] at e0
    exact addr_none e0
  have hl2 : ((List.range len).map f).length = len := by simp
  refine ⟨_, (List.range len).map f, hcs, ⟨some a, cap, by rw [hl2], by rw [hl2]; exact hl, fun j u hj => ?_, fun b o e _ => ⟨Nat.zero_le _, ?_⟩⟩, by rw [hl2]; unfold maxLen at hcm; omega, fun x hx => ?_⟩
  · refine ⟨a.block, a.off, by rw [← ea], ?_⟩
    have hj' := hj
    rw [show List.flatMap encv ((List.range len).map f) = cellsF (fun i => encv (f i)) len by unfold cellsF; rw [List.flatMap_map]] at hj'
    have hjl : j < len * m := by
      have := (List.getElem?_eq_some_iff.1 hj').1
      rwa [cellsF_len (fun i => hlen (f i))] at this
    have hdm := Nat.div_add_mod j m
    have hlt : j % m < m := Nat.mod_lt _ hm0
    have hdl : j / m < len := by
      rw [Nat.div_lt_iff_lt_mul hm0]; exact hjl
    obtain ⟨u1, hu1⟩ : ∃ u, (encv (f (j / m)))[j % m]? = some u := ⟨_, List.getElem?_eq_getElem (by rw [hlen]; exact hlt)⟩
    have e1 := cellsF_get (f := fun i => encv (f i)) (fun i => hlen (f i)) hdl hu1
    rw [show j / m * m + j % m = j by rw [Nat.mul_comm]; exact hdm] at e1
    rw [e1] at hj'
    have hjj := Option.some.inj hj'
    subst hjj
    have h2 := (hfx (j / m) hdl).2 _ _ hu1
    rw [ea, addr_add, addr_add] at h2
    rw [← h2]
    congr 2
    rw [Nat.mul_comm]; omega
  · rw [ea, addr_add, addr_add] at e0
    have e' := Option.some.inj e
    have hb' : b = a.block := by rw [e']
    rw [hb']
    exact cell_lt (a := ⟨a.block, _, none⟩) e0
  · obtain ⟨i, hi, rfl⟩ := List.mem_map.1 hx
    exact (hfx i (List.mem_range.1 hi)).1

theorem el_U32 : ElT Try.prog 27 u32c (fun i => i < 4294967296) := by
  intro H enc W n cs x h
  obtain ⟨z, hc, _, hw⟩ := DataW.trod_int Try.underlying27 h
  have := int_wfu32 hw
  refine ⟨z.toNat, ?_, by omega⟩
  rw [hc]
  show [Value.int .u32 z] = [Value.int .u32 ((z.toNat : Nat) : Int)]
  rw [show ((z.toNat : Nat) : Int) = z by omega]

def NdU (nd : Nd) : Prop := nd.left < 4294967296 ∧ nd.right < 4294967296
theorem el_Node : ElT Try.prog 50 Nd.cells NdU :=
  elT_ints (ks := [.i64, .i64, .u32, .u32, .i64, .i64, .i64, .i64]) Try.underlying50 (by kernel_rfl) (by kernel_rfl) fun zs hz => by
    match zs, hz with
    | [a, b, c, d, e, f, g, i], h =>
      have h3 := int_wfu32 h.2.2.1
      have h4 := int_wfu32 h.2.2.2.1
      refine ⟨⟨a, b, c.toNat, d.toNat, e, f, g, i⟩, ?_, by show c.toNat < _; omega, by show d.toNat < _; omega⟩
      show [_, _, _, _, _, _, _, _] = [_, _, _, _, _, _, _, _]
      rw [show ((c.toNat : Nat) : Int) = c by omega, show ((d.toNat : Nat) : Int) = d by omega]

theorem elT_bi {α : Type} {P : Program} {t : TypeId} {fs : Array Field} {f0 f1 f2 f3 : Field} {k1 k2 : IntKind} {m : Nat} {enc3 : α → List Value} {ok3 : α → Prop} {β : Type} {encv : β → List Value} {ok : β → Prop}
    (he : P.underlying t = some (.struct fs)) (hfs : fs.toList = [f0, f1, f2, f3]) (o0 : f0.offset = 0) (o1 : f1.offset = 1) (o2 : f2.offset = 2) (o3 : f3.offset = 3)
    (c0 : P.cellsOf f0.type = 1) (c1 : P.cellsOf f1.type = 1) (c2 : P.cellsOf f2.type = 1) (c3 : P.cellsOf f3.type = m) (ct : P.cellsOf t = 3 + m)
    (u0 : P.underlying f0.type = some .bool) (u1 : P.underlying f1.type = some (.int k1)) (u2 : P.underlying f2.type = some (.int k2)) (el3 : ElT P f3.type enc3 ok3)
    (ha : ∀ b z1 z2 a, (Lit.int k1 z1).wf = true → (Lit.int k2 z2).wf = true → ok3 a → ∃ x, [Value.bool b, .int k1 z1, .int k2 z2] ++ enc3 a = encv x ∧ ok x) : ElT P t encv ok := by
  intro H enc W n cs x h
  obtain ⟨xs, k, hk, hxy, hl, hxl, hf⟩ := DataW.trod_struct he h
  have get : ∀ (i : Nat) (f : Field), fs.toList[i]? = some f → ∃ y, DataW.trod enc P W 0 (fun _ => true) true k f.type ((cs.drop f.offset).take (P.cellsOf f.type)) = some y := by
    intro i f hif
    have hif' : fs[i]? = some f := by simpa using hif
    have hi : i < xs.length := by rw [hxl]; exact (Array.getElem?_eq_some_iff.1 hif').1
    exact ⟨xs[i], by rw [hf i f hif', List.getElem?_eq_getElem hi]⟩
  obtain ⟨y0, h0⟩ := get 0 f0 (by rw [hfs]; rfl)
  obtain ⟨y1, h1⟩ := get 1 f1 (by rw [hfs]; rfl)
  obtain ⟨y2, h2⟩ := get 2 f2 (by rw [hfs]; rfl)
  obtain ⟨y3, h3⟩ := get 3 f3 (by rw [hfs]; rfl)
  rw [c0, o0] at h0
  rw [c1, o1] at h1
  rw [c2, o2] at h2
  rw [c3, o3] at h3
  obtain ⟨b, e0, _⟩ := DataW.trod_bool u0 h0
  obtain ⟨z1, e1, _, w1⟩ := DataW.trod_int u1 h1
  obtain ⟨z2, e2, _, w2⟩ := DataW.trod_int u2 h2
  obtain ⟨a, e3, w3⟩ := el3 _ _ _ _ _ _ h3
  obtain ⟨x, hx, hok⟩ := ha b z1 z2 a w1 w2 w3
  refine ⟨x, ?_, hok⟩
  rw [← hx, ← e3]
  rw [ct] at hl
  match cs, hl with
  | p :: q :: r :: tl, hl =>
    simp at e0 e1 e2 hl
    simp only [List.drop_succ_cons, List.drop_zero, List.cons_append, List.nil_append]
    rw [List.take_of_length_le (by omega), e0, e1, e2]
  | [], hl => simp at hl; omega
  | [_], hl => simp at hl; omega
  | [_, _], hl => simp at hl; omega

theorem el_Slot : ElT Try.prog 52 Slt.cells (fun s => NdU s.nd) :=
  elT_bi (m := 8) Try.underlying52 rfl rfl rfl rfl rfl (by kernel_rfl) (by kernel_rfl) (by kernel_rfl) (by kernel_rfl) (by kernel_rfl) Try.underlying4 Try.underlying3 Try.underlying27 el_Node
    fun b z1 z2 nd w1 w2 w3 => by
      have hz2 := int_wfu32 w2
      refine ⟨⟨b, z1, z2.toNat, nd⟩, ?_, w3⟩
      have ez : ((z2.toNat : Nat) : Int) = z2 := by omega
      show _ = [Value.bool b, .int .i64 z1, .int .u32 ((z2.toNat : Nat) : Int)] ++ nd.cells
      rw [ez]

theorem open_two {α β : Type} {H : Type} {enc : TypeId × Value → H} {P : Program} {W : World} {base : Nat} {t e0 e1 : TypeId} {fs : Array Field} {f0 f1 : Field} {m0 m1 : Nat} {v : Value} {d : DataW H} {ps : List MemPlace} {enc0 : α → List Value} {ok0 : α → Prop} {enc1 : β → List Value} {ok1 : β → Prop}
    (he : P.underlying t = some (.struct fs)) (hfs : fs.toList = [f0, f1]) (o0 : f0.offset = 0) (o1 : f1.offset = 1) (c0 : P.cellsOf f0.type = 1) (c1 : P.cellsOf f1.type = 1) (ct : P.cellsOf t = 2)
    (u0 : P.underlying f0.type = some (.slice e0)) (u1 : P.underlying f1.type = some (.slice e1)) (hm0 : P.cellsOf e0 = m0) (hm1 : P.cellsOf e1 = m1) (hp0 : 0 < m0) (hp1 : 0 < m1) (el0 : ElT P e0 enc0 ok0) (el1 : ElT P e1 enc1 ok1) (hl0 : ∀ a, (enc0 a).length = m0) (hl1 : ∀ a, (enc1 a).length = m1)
    (hv : Value.okWide P W .any base t v) (h : DataW.Trod enc P W 0 (fun _ => true) true t v d ps) :
    ∃ v0 v1 l0 l1, v = .agg ⟨[v0, v1]⟩ ∧ Rd W 0 v0 enc0 l0 ∧ Rd W 0 v1 enc1 l1 ∧ (∀ a ∈ l0, ok0 a) ∧ (∀ a ∈ l1, ok1 a) := by
  obtain ⟨cs, rfl, hc⟩ := okWide_struct he hv
  obtain ⟨fuel, hf⟩ := h
  obtain ⟨xs, k, hk, hxy, hl, hxl, hf⟩ := DataW.trod_struct he hf
  have get : ∀ (i : Nat) (f : Field), fs.toList[i]? = some f → ∃ y, DataW.trod enc P W 0 (fun _ => true) true k f.type (((Value.agg cs).cells.toList.drop f.offset).take (P.cellsOf f.type)) = some y := by
    intro i f hif
    have hif' : fs[i]? = some f := by simpa using hif
    have hi : i < xs.length := by rw [hxl]; exact (Array.getElem?_eq_some_iff.1 hif').1
    exact ⟨xs[i], by rw [hf i f hif', List.getElem?_eq_getElem hi]⟩
  obtain ⟨y0, h0⟩ := get 0 f0 (by rw [hfs]; rfl)
  obtain ⟨y1, h1⟩ := get 1 f1 (by rw [hfs]; rfl)
  rw [c0, o0] at h0
  rw [c1, o1] at h1
  obtain ⟨v0, l0, e0', r0, _, k0⟩ := open_recsC u0 hm0 hp0 el0 hl0 h0
  obtain ⟨v1, l1, e1', r1, _, k1⟩ := open_recsC u1 hm1 hp1 el1 hl1 h1
  refine ⟨v0, v1, l0, l1, ?_, r0, r1, k0, k1⟩
  rw [ct] at hc
  obtain ⟨cl⟩ := cs
  match cl, hc with
  | [a, b], _ =>
    simp [Value.cells] at e0' e1'
    rw [e0', e1']

set_option maxRecDepth 100000 in
theorem open_dump {H : Type} {enc : TypeId × Value → H} {W : World} {base : Nat} {v : Value} {d : DataW H} {ps : List MemPlace}
    (hv : Value.okWide Try.prog W .any base 36 v) (h : DataW.Trod enc Try.prog W 0 (fun _ => true) true 36 v d ps) : ∃ D, DpAt W 0 v D ∧ DumpOk D := by
  obtain ⟨v0, v1, l0, l1, e, r0, r1, k0, k1⟩ := open_two (m0 := 11) (m1 := 1) Try.underlying36 rfl rfl rfl (by kernel_rfl) (by kernel_rfl) (by kernel_rfl) Try.underlying33 Try.underlying34 (by kernel_rfl) (by kernel_rfl) (by decide) (by decide) el_Slot el_U32 slt_len (fun _ => rfl) hv h
  exact ⟨⟨l0, l1⟩, ⟨v0, v1, e, r0, r1⟩, ⟨fun s hs => k0 s hs, fun i hi => k1 i hi⟩⟩

end Go.Proofs.Ytapocbahkeoeoaa
