/-
  Slices that the call itself makes: make, append, literals. Lemmas on the walk's own forms.
-/
import Derived.Test.YtapocbahkeoeoaaF1
set_option linter.unusedVariables false
namespace Go.Vc

/-- The slice 'v' owns the elements 'xs' (cells, 'm' an element), in a block from 'lo' on. -/
def Own (w : World) (lo : Nat) (e : TypeId) (m : Nat) (v : Value) (n : Nat) (xs : List Value) : Prop := w.ownsRow lo e m v n xs

theorem Own.fr {w w' : World} {S : Nat → Prop} {lo : Nat} {e : TypeId} {m n : Nat} {v : Value} {xs : List Value} (h : Own w lo e m v n xs) (f : Fr S w w') (hS : ∀ b, lo ≤ b → ¬ S b) : Own w' lo e m v n xs := by
  refine ⟨h.1, ?_⟩
  rcases h.2 with h2 | ⟨g, cap, cur, hv, hg, hh, r⟩
  · exact Or.inl h2
  · exact Or.inr ⟨g, cap, cur, hv, hg, (f.block g (Array.getElem?_eq_some_iff.1 hh).1 (hS g hg)).trans hh, r⟩
theorem Own.ext {w w' : World} {lo : Nat} {e : TypeId} {m n : Nat} {v : Value} {xs : List Value} (h : Own w lo e m v n xs) (f : Ext w w') : Own w' lo e m v n xs := h.fr f (fun _ _ => id)
theorem Own.nil (w : World) (lo : Nat) (e : TypeId) (m : Nat) : Own w lo e m (.slice none 0 0) 0 [] := World.ownsRow_nil w lo e m

theorem Own.slice {w : World} {lo : Nat} {e : TypeId} {m n : Nat} {v : Value} {xs : List Value} (h : Own w lo e m v n xs) : ∃ sa cap, v = .slice sa n cap ∧ n ≤ cap ∧ RdC w sa xs := by
  rcases h.2 with ⟨rfl, rfl⟩ | ⟨g, cap, cur, rfl, hg, hh, hn, hc, hs, ht⟩
  · have : xs = [] := List.eq_nil_of_length_eq_zero (by simpa using h.1)
    subst this
    exact ⟨none, 0, rfl, Nat.le_refl _, fun j u hj => by simp at hj⟩
  · refine ⟨_, cap, rfl, hn, fun j u hj => ⟨g, 0, rfl, ?_⟩⟩
    rw [← ht, List.getElem?_take] at hj
    split at hj
    · have : cur[j]? = some u := by simpa using hj
      simp [World.cell?, hh, this]
    · cases hj

/-- What an append leaves: new blocks, and writes to the row of its first operand. -/
theorem ext_grown {w0 w w' : World} {lo : Nat} {e : TypeId} {m n : Nat} {v : Value} {xs : List Value} (h0 : Ext w0 w) (hlo : w0.heap.size ≤ lo) (hown : Own w lo e m v n xs) (hg : w.grownBy w' v.ownBlock) : Ext w0 w' :=
  ⟨hg.os.trans h0.os, hg.tape.trans h0.tape, hg.output.trans h0.output, Nat.le_trans h0.size hg.size, fun b hb _ => by
    rw [hg.block b (Nat.lt_of_lt_of_le hb h0.size) (fun e => by have := (World.ownsRow.lt hown b e.symm).1; omega)]
    exact h0.block b hb id⟩

section
variable {P : Program} {n : Nat} {Q : Exit → Act → World → Prop} {k : List It} {st : St} {w : World}
variable {all : Array Oper} {rest : List Oper} {d : Nat} {t to e : TypeId} {p : String} {af : Array Edge} {x y : Operand} {m bytes : Nat} {D : Cls}

theorem run_appendR [he : Elem P t e m bytes] (hm : m ≠ 0) {lo q r : Nat} {v : Value} {xs news : List Value} {sa : Option Addr} {c : Nat}
    (hown : Own w lo e m v q xs) (hr : RdC w sa news) (hl : news.length = r * m) (h1 : ∀ u ∈ news, u.oneCell' = true) (h63 : q + r ≤ maxLen) (hb : (q + r) * bytes ≤ 140737488355328) (hlo : lo ≤ w.heap.size) :
    ∃ v' w', (Builtin.append_ #[t, t] to #[v, .slice sa r c]).run P w = .ok v' w' ∧ Own w' lo e m v' (q + r) (xs ++ news) ∧ w.grownBy w' v.ownBlock ∧ (v' = .slice none 0 0 ↔ v = .slice none 0 0 ∧ r = 0) := by
  obtain ⟨i, hi, hs, hby, z, hz, hzs⟩ := he.row
  cases sa with
  | some a =>
    refine run_append_own w lo t to e i z m bytes he.u hi hz hs hby hzs (by omega) v q xs hown a r c news hl ?_ h1 h63 hb hlo
    intro j u hj
    obtain ⟨b, o, ea, hc⟩ := hr j u hj
    simp only [Option.some.injEq] at ea
    subst ea
    rw [addr_add]; exact hc
  | none =>
    have hn : news = [] := by
      cases news with
      | nil => rfl
      | cons u l => obtain ⟨_, _, ea, _⟩ := hr 0 u rfl; cases ea
    subst hn
    have hr0 : r = 0 := by
      rcases Nat.eq_zero_or_pos r with h | h
      · exact h
      · have := Nat.mul_pos h (Nat.pos_of_ne_zero hm)
        simp at hl; omega
    subst hr0
    have hsz : (sizeOf e).run P w = .ok m w := by simp [sizeOf, typeInfo, hi, hs]
    obtain ⟨sb, cap, rfl, hcap, _⟩ := hown.slice
    refine ⟨.slice sb q cap, w, ?_, by simpa using hown, ⟨rfl, rfl, rfl, Nat.le_refl _, fun _ _ _ => rfl⟩, by simp⟩
    cases sb <;> simp [Builtin.append_, run_underlying he.u, hsz, Builtin.lenOf, hcap, Builtin.firstCells, storeCells]

/-- 'append(x, y...)': x is the call's own; y is read. -/
theorem go_append [he : Elem P t e m bytes] (hm : m ≠ 0) {lo q r c : Nat} {v : Value} {xs news : List Value} {sa : Option Addr}
    (hd : Nat.blt d n = true) (hx : evS st x = some v) (hy : evS st y = some (.slice sa r c)) (hown : Own w lo e m v q xs) (hr : RdC w sa news) (hl : news.length = r * m)
    (h1 : ∀ u ∈ news, u.oneCell' = true) (h63 : q + r ≤ maxLen) (hb : (q + r) * bytes ≤ 140737488355328) (hlo : lo ≤ w.heap.size)
    (h : ∀ v' w', Own w' lo e m v' (q + r) (xs ++ news) → w.grownBy w' v.ownBlock → (v' = .slice none 0 0 ↔ v = .slice none 0 0 ∧ r = 0) → Go P n Q (.ops all rest :: k) ((d, v') :: st) w') :
    Go P n Q (.ops all (⟨some d, .call { callee := .builtin .append, args := #[x, y], argTypes := #[t, t] }, to, p, af, none⟩ :: rest) :: k) st w := by
  obtain ⟨v', w', e1, e2, e3, e4⟩ := run_appendR (P := P) (t := t) (to := to) (c := c) hm hown hr hl h1 h63 hb hlo
  refine go_val hd (fun a ha => ?_) (h v' w' e2 e3 e4)
  simp [execOp, resolve, invoke, builtin, ha.ev hx, ha.ev hy, e1]

theorem gol_append [he : Elem P t e m bytes] (hm : m ≠ 0) {lo q r c : Nat} {v : Value} {xs news : List Value} {sa : Option Addr}
    (hd : Nat.blt d n = true) (hx : evS st x = some v) (hy : evS st y = some (.slice sa r c)) (hown : Own w lo e m v q xs) (hr : RdC w sa news) (hl : news.length = r * m)
    (h1 : ∀ u ∈ news, u.oneCell' = true) (h63 : q + r ≤ maxLen) (hb : (q + r) * bytes ≤ 140737488355328) (hlo : lo ≤ w.heap.size)
    (h : ∀ v' w', Own w' lo e m v' (q + r) (xs ++ news) → w.grownBy w' v.ownBlock → (v' = .slice none 0 0 ↔ v = .slice none 0 0 ∧ r = 0) → D.aft rest w' ∧ Go P n Q (.lex all D rest :: k) ((d, v') :: st) w') :
    Go P n Q (.lex all D (⟨some d, .call { callee := .builtin .append, args := #[x, y], argTypes := #[t, t] }, to, p, af, none⟩ :: rest) :: k) st w := by
  obtain ⟨v', w', e1, e2, e3, e4⟩ := run_appendR (P := P) (t := t) (to := to) (c := c) hm hown hr hl h1 h63 hb hlo
  refine gol_run rfl hd (fun a ha => ?_) (h v' w' e2 e3 e4).1 (h v' w' e2 e3 e4).2
  simp [execOp, resolve, invoke, builtin, ha.ev hx, ha.ev hy, e1]

/-- 'make([]T, 0, c)' -/
theorem go_make0 [he : Elem P t e m bytes] {c : Nat} {i j : Int} {k1 k2 : IntKind} (hd : Nat.blt d n = true) (hx : evS st x = some (.int k1 i)) (hy : evS st y = some (.int k2 j)) (hi : i = 0) (hj : j = (c : Int))
    (hb : bytes * c ≤ 281474976710656) (h63 : c ≤ maxLen)
    (h : ∀ v w', Own w' w.heap.size e m v 0 [] → Ext w w' → Go P n Q (.ops all rest :: k) ((d, v) :: st) w') :
    Go P n Q (.ops all (⟨some d, .makeSlice t x y, to, p, af, none⟩ :: rest) :: k) st w := by
  subst hi; subst hj
  obtain ⟨i, hi, hs, hby, z, hz, hzs⟩ := he.row
  obtain ⟨w', e1, e2, e3⟩ := run_make_own (P := P) w w.heap.size t e i z m he.u hi hz hs k1 k2 c (by rw [hby]; exact hb) h63 (Nat.le_refl _)
  refine go_val hd (fun a ha => ?_) (h _ w' e2 ⟨e3.os, e3.tape, e3.output, e3.size, fun b hb _ => e3.block b hb (by simp)⟩)
  simp [execOp, ha.ev hx, ha.ev hy, e1]

/-- A slice literal of elements of one cell. -/
def litCells : List (Nat × Operand) → St → Nat → Option (List Value)
  | [], _, _ => some []
  | (i, x) :: r, st, j => match Nat.beq i j with
    | true => match evS st x with
      | some v => match litCells r st (j + 1) with
        | some l => match v.oneCell' with
          | true => some (v :: l)
          | false => none
        | none => none
      | none => none
    | false => none

theorem litCells_spec : ∀ {ps : List (Nat × Operand)} {j : Nat} {l : List Value}, litCells ps st j = some l → ∀ {n0 : Nat} {a : Act}, Sat n0 st a →
    (ps.map fun q => (q.1, a.eval q.2)) = (l.zipIdx j).map (fun q => (q.2, q.1)) ∧ (∀ v ∈ l, v.oneCell' = true)
  | [], j, l, h, n0, a, ha => by simp only [litCells, Option.some.injEq] at h; subst h; simp
  | (i, x) :: r, j, l, h, n0, a, ha => by
    simp only [litCells] at h
    split at h
    · rename_i hb
      have : i = j := Nat.eq_of_beq_eq_true hb
      subst this
      split at h
      · rename_i v hv
        split at h
        · rename_i l' hl'
          split at h
          · rename_i h1
            simp only [Option.some.injEq] at h; subst h
            obtain ⟨e1, e2⟩ := litCells_spec hl' ha
            refine ⟨?_, ?_⟩
            · simp only [List.map_cons, List.zipIdx_cons, ha.ev hv, e1]
            · intro u hu
              rcases List.mem_cons.1 hu with rfl | hu
              · exact h1
              · exact e2 u hu
          · cases h
        · cases h
      · cases h
    · cases h

theorem fill_lit : ∀ (l : List Value) (pre : List Value) (post : List Value), (∀ v ∈ l, v.oneCell' = true) → post.length = l.length →
    Instr.fill (fun i => some (i * 1, 1)) (pre ++ post).toArray ((l.zipIdx pre.length).map (fun q => (q.2, q.1))) = some (pre ++ l).toArray
  | [], pre, post, _, h => by
    have : post = [] := List.eq_nil_of_length_eq_zero (by simpa using h)
    subst this
    simp [Instr.fill]
  | v :: l, pre, post, h1, h => by
    obtain ⟨u, post', rfl⟩ : ∃ u p, post = u :: p := by
      cases post with
      | nil => simp at h
      | cons u p => exact ⟨u, p, rfl⟩
    have hv : v.cells = #[v] := by have := h1 v (by simp); cases v <;> first | rfl | cases this
    have ih := fill_lit l (pre ++ [v]) post' (fun x hx => h1 x (by simp [hx])) (by simpa using h)
    simp only [List.zipIdx_cons, List.map_cons, Instr.fill, hv]
    have hc : ¬ (1 ≠ 1 ∨ pre.length * 1 + 1 > (pre ++ u :: post').length) := by simp
    simp only [List.size_toArray, List.length_cons, List.length_nil, Nat.zero_add, Nat.mul_one]
    rw [if_neg (by simp)]
    have hset : ((#[v] : Array Value).zipIdx.foldl (fun cs q => cs.setIfInBounds (pre.length + q.2) q.1) (pre ++ u :: post').toArray) = ((pre ++ [v]) ++ post').toArray := by
      simp
    have e : (pre ++ [v]).length = pre.length + 1 := by simp
    rw [e] at ih
    rw [hset]
    simpa using ih

theorem go_lit [he : Elem P t e 1 bytes] {q nb : Nat} {ps : List (Nat × Operand)} {l : List Value} (hd : Nat.blt d n = true) (hl : litCells ps st 0 = some l) (hq : l.length = q) (hq0 : q ≤ 16777216) (hqp : 0 < q) (hnb : w.heap.size = nb)
    (h : Go P n Q (.ops all rest :: k) ((d, .slice (some ⟨nb, 0, none⟩) q q) :: st) (w.alloc (.cells l.toArray e))) :
    Go P n Q (.ops all (⟨some d, .buildSlice t q ps.toArray, to, p, af, none⟩ :: rest) :: k) st w := by
  subst hnb
  obtain ⟨i, hi, hs, hby, z, hz, hzs⟩ := he.row
  refine go_val hd (fun a ha => ?_) h
  obtain ⟨e1, e2⟩ := litCells_spec hl ha
  have hfill := fill_lit l [] ((List.replicate q z.cells[0]!)) e2 (by simp [hq])
  simp only [List.length_nil, List.nil_append] at hfill
  have hps : (ps.toArray.map fun (i, x) => (i, a.eval x)).toList = (l.zipIdx).map (fun q => (q.2, q.1)) := by
    simp only [List.map_toArray]
    exact e1
  have hz1 : z.cells.size = 1 := hzs
  have hrow : ((Array.range (q * 1)).map (z.cells[· % z.cells.size]!)) = (List.replicate q z.cells[0]!).toArray := by
    apply Array.ext
    · simp
    · intro j h1 h2
      simp [hz1, Nat.mod_one]
  have hnot : ¬ (q * 1 > 2 ^ 24) := by omega
  simp only [execOp, Instr.buildSlice, Sem.run_bind, run_underlying he.u, Result.andThen_ok]
  have hsz : (sizeOf e).run P w = .ok 1 w := by simp [sizeOf, typeInfo, hi, hs]
  have hzv : (zeroValue e).run P w = .ok z w := by simp [zeroValue, typeInfo, hi, hz]
  rw [hsz]
  simp only [Result.andThen_ok]
  rw [if_neg hnot]
  rw [if_neg (by omega)]
  simp only [Sem.run_bind, hzv, Sem.run_pure, Result.andThen_ok]
  simp only [hrow, hps]
  rw [hfill]
  simp [newRow, newObj, Sem.run]

end
end Go.Vc
