/-
  Regions with many orders: allocations, calls and stores, one rule each; what is known is which new blocks there are.
-/
import Derived.Test.YtfaeboamjfdjlaaRd
import Derived.Test.YtfaeboamjfdjlaaFacts
set_option linter.unusedVariables false
namespace Go.Vc

/-- New blocks, with their cells, the last one first; all else is as it was in 'w0'. -/
structure Bk (T : TypeId) (w0 w : World) (L : List (Nat × List Value)) : Prop where
  ext : Ext w0 w
  at' : ∀ x ∈ L, At w x.1 x.2 T ∧ w0.heap.size ≤ x.1
  nd : (L.map (·.1)).Nodup

theorem Bk.nil {T : TypeId} {w0 w : World} (h : Ext w0 w) : Bk T w0 w [] := ⟨h, by simp, by simp⟩
theorem Bk.step {T : TypeId} {w0 w w' : World} {L : List (Nat × List Value)} (h : Bk T w0 w L) (f : Ext w w') : Bk T w0 w' L := ⟨h.ext.trans f, fun x hx => ⟨(h.at' x hx).1.ext f, (h.at' x hx).2⟩, h.nd⟩
theorem Bk.new {T : TypeId} {w0 w : World} {L : List (Nat × List Value)} (h : Bk T w0 w L) (C : List Value) : Bk T w0 (w.alloc (.cells C.toArray T)) ((w.heap.size, C) :: L) := by
  have f : Ext w (w.alloc (.cells C.toArray T)) := (Fr.refl _ _).alloc _
  refine ⟨h.ext.trans f, fun x hx => ?_, ?_⟩
  · rcases List.mem_cons.1 hx with rfl | hx
    · exact ⟨At.new _ _ _, h.ext.size⟩
    · exact ⟨(h.at' x hx).1.ext f, (h.at' x hx).2⟩
  · simp only [List.map_cons, List.nodup_cons]
    refine ⟨fun hm => ?_, h.nd⟩
    obtain ⟨x, hx, e⟩ := List.mem_map.1 hm
    have := (h.at' x hx).1.lt
    omega
theorem Bk.get {T : TypeId} {w0 w : World} {L : List (Nat × List Value)} (h : Bk T w0 w L) {i b : Nat} {C : List Value} (hi : L[i]? = some (b, C)) : At w b C T ∧ w0.heap.size ≤ b := h.at' (b, C) (List.mem_of_getElem? hi)
theorem Bk.ne {T : TypeId} {w0 w : World} {L : List (Nat × List Value)} (h : Bk T w0 w L) {i j b c : Nat} {C D : List Value} (hi : L[i]? = some (b, C)) (hj : L[j]? = some (c, D)) (hij : i ≠ j) : b ≠ c := by
  rintro rfl
  have h1 : (L.map (·.1))[i]? = some b := by rw [List.getElem?_map, hi]; rfl
  have h2 : (L.map (·.1))[j]? = some b := by rw [List.getElem?_map, hj]; rfl
  have hil := (List.getElem?_eq_some_iff.1 h1).1
  exact hij ((List.getElem?_inj hil h.nd).1 (h1.trans h2.symm))
theorem Bk.set {T : TypeId} {w0 w : World} {L : List (Nat × List Value)} (h : Bk T w0 w L) {i b : Nat} {C C' : List Value} (hi : L[i]? = some (b, C)) : Bk T w0 (w.setRow b C'.toArray) (L.set i (b, C')) := by
  have hg := h.get hi
  have hil := (List.getElem?_eq_some_iff.1 hi).1
  refine ⟨Fr.setRow h.ext _ (Or.inr hg.2), fun x hx => ?_, ?_⟩
  · obtain ⟨j, hj⟩ := List.mem_iff_getElem?.1 hx
    rw [List.getElem?_set] at hj
    by_cases e : i = j
    · rw [if_pos e, if_pos hil] at hj
      obtain rfl := Option.some.inj hj
      exact ⟨hg.1.setRow _, hg.2⟩
    · rw [if_neg e] at hj
      have hx := h.get (i := j) (b := x.1) (C := x.2) hj
      have hne := h.ne hi (show L[j]? = some (x.1, x.2) from hj) e
      exact ⟨hx.1.setRow_ne hne _, hx.2⟩
  · rw [List.map_set]
    have e : (L.map (·.1)).set i b = L.map (·.1) := by
      apply List.ext_getElem?
      intro j
      rw [List.getElem?_set]
      by_cases e : i = j
      · subst e
        rw [if_pos rfl, if_pos (by simpa using hil), List.getElem?_map, hi]; rfl
      · rw [if_neg e]
    show ((L.map (·.1)).set i b).Nodup
    rw [e]; exact h.nd

theorem Bk.out {T : TypeId} {w0 w : World} {L : List (Nat × List Value)} (h : Bk T w0 w L) {i j k x y z : Nat} {X Y Z : List Value} (hx : L[i]? = some (x, X)) (hy : L[j]? = some (y, Y)) (hz : L[k]? = some (z, Z)) (hij : i ≠ j) (hik : i ≠ k) (hjk : j ≠ k) :
    At w x X T ∧ At w y Y T ∧ At w z Z T ∧ Ext w0 w ∧ w0.heap.size ≤ x ∧ w0.heap.size ≤ y ∧ w0.heap.size ≤ z ∧ x ≠ y ∧ x ≠ z ∧ y ≠ z :=
  ⟨(h.get hx).1, (h.get hy).1, (h.get hz).1, h.ext, (h.get hx).2, (h.get hy).2, (h.get hz).2, h.ne hx hy hij, h.ne hx hz hik, h.ne hy hz hjk⟩

section
variable {P : Program} {n : Nat} {Q : Exit → Act → World → Prop} {k : List It} {st : St} {w w0 : World}
variable {all : Array Oper} {d : Nat} {to T t' : TypeId} {p : String} {af : Array Edge} {t : Sch} {L : List (Nat × List Value)}

theorem ev_al {zl : List Value} [hz : Zero P T zl] (hd : Nat.blt d n = true) (h : Bk T w0 w L)
    (c : ∀ w', Bk T w0 w' ((w.heap.size, zl) :: L) → Go P n Q (.sch all (Ext w0) t :: k) ((d, .pointer (some ⟨w.heap.size, 0, none⟩)) :: st) w') :
    Go P n Q (.lex all ⟨Ext w0, 0⟩ [⟨some d, .alloc T, to, p, af, none⟩] :: .sch all (Ext w0) t :: k) st w :=
  gol_alloc hd rfl (h.new zl).ext (gol_nil (c _ (h.new zl)))

theorem ev_call {f : FuncId} {xs : List Operand} {vs : List Value} {ts : Array TypeId} {V : Value} [hf : Enters P f] (hd : Nat.blt d n = true) (hx : evL st xs = some vs) (h : Bk T w0 w L)
    (hc : ∀ y, Ext w0 y → Calls P f vs.toArray y (Ret fun v w' => v = V ∧ Ext y w')) (c : ∀ w', Bk T w0 w' L → Go P n Q (.sch all (Ext w0) t :: k) ((d, V) :: st) w') :
    Go P n Q (.lex all ⟨Ext w0, 0⟩ [⟨some d, .call { callee := .value (.func f), args := xs.toArray, argTypes := ts }, to, p, af, none⟩] :: .sch all (Ext w0) t :: k) st w :=
  gol_call hd hx (hc w h.ext) fun v w' hv => by
    obtain ⟨rfl, f⟩ := hv
    exact ⟨(h.step f).ext, gol_nil (c _ (h.step f))⟩

theorem ev_st {m i b : Nat} {C cs : List Value} {x y : Operand} [hs : Agg P T m] (hx : evS st x = some (.pointer (some ⟨b, 0, none⟩))) (hy : evS st y = some (.agg ⟨cs⟩)) (h : Bk T w0 w L) (hi : L[i]? = some (b, C)) (hl : cs.length = m) (hm : Nat.beq m 0 = false) (hC : C.length = m) (h1 : allOne cs = true)
    (c : ∀ w', Bk T w0 w' (L.set i (b, cs)) → Go P n Q (.sch all (Ext w0) t :: k) st w') :
    Go P n Q (.lex all ⟨Ext w0, 0⟩ [⟨none, .store T x y, to, p, af, none⟩] :: .sch all (Ext w0) t :: k) st w := by
  have hg := h.get hi
  have e := st_agg (P := P) (t := T) (l := cs) (i := 0) hg.1 hl (Nat.ne_of_beq_eq_false hm) (by omega) (allOne_spec h1)
  have es : splice C 0 cs = cs := by unfold splice; rw [List.take_zero, List.nil_append, List.drop_eq_nil_of_le (by omega), List.append_nil]
  rw [es] at e
  have hB := h.set (C' := cs) hi
  exact gol_store hx hy e hB.ext (gol_nil (c _ hB))
end
end Go.Vc
