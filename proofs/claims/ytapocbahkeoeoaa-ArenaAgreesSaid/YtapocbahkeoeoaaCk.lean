/-
  The reference's audit of a dump: what it counts and what it marks.
-/
import Derived.Test.YtapocbahkeoeoaaDm
import Derived.Test.YtapocbahkeoeoaaSd
set_option linter.unusedVariables false
namespace Go.Proofs.Ytapocbahkeoeoaa
open Go.Vc

def Dp.al (D : Dp) : Nat → Bool
  | 0 => false
  | j + 1 => match D.slots[j]? with
    | some s => s.on
    | none => false
theorem Dp.al_get {D : Dp} {j : Nat} (h : j < D.slots.length) : D.al (j + 1) = D.slots[j].on := by simp [Dp.al, List.getElem?_eq_getElem h]
theorem Dp.al_out {D : Dp} {j : Nat} (h : D.slots.length ≤ j) : D.al (j + 1) = false := by simp [Dp.al, List.getElem?_eq_none h]
theorem Dp.al_lt {D : Dp} {i : Nat} (h : D.al i = true) : ∃ j, i = j + 1 ∧ ∃ hj : j < D.slots.length, D.slots[j].on = true := by
  cases i with
  | zero => cases h
  | succ j =>
    by_cases hj : j < D.slots.length
    · exact ⟨j, rfl, hj, by rw [← Dp.al_get hj]; exact h⟩
    · rw [Dp.al_out (by omega)] at h; cases h

structure Dp.Ok (D : Dp) : Prop where
  len : D.slots.length ≤ 1000000
  flen : D.free.length ≤ 1000000
  kid : ∀ s ∈ D.slots, s.nd.left < 4294967296 ∧ s.nd.right < 4294967296
  fr : ∀ i ∈ D.free, i < 4294967296

/-- The children of a slot. -/
def Slt.kd (s : Slt) : List Nat := [s.nd.left, s.nd.right]
/-- All children of allocated slots. -/
def kdsF (l : List Slt) : List Nat := l.flatMap fun s => if s.on = true then s.kd else []

theorem c_Allocated (w : World) (lo : Nat) (v : Value) (D : Dp) (i : Nat) (hd : DpAt w lo v D) (hk : D.slots.length ≤ 1000000) (hi : i < 4294967296) :
    Calls Try.prog 31 [v, .int .u32 (i : Int)].toArray w (Ret fun r w' => r = .bool (D.al i) ∧ Ext w w') := by
  obtain ⟨sv, fv, rfl, hs, hf⟩ := hd
  have hs' := hs.up
  obtain ⟨s1, c1, rfl, h1, _, _⟩ := hs
  obtain ⟨s2, c2, rfl, h2, _, _⟩ := hf
  refine calls_go Try.func31 rfl Try.ntmps31 (Nat.le_of_ble_eq_true rfl) ?_
  cases i with
  | zero =>
    repeat (first | refine sp ?_ | (refine is_load ?_; refine ld ?_) | (refine is_store ?_; refine sr ?_) | (refine is_alloc ?_; refine al ?_) | (refine is_box ?_; refine bx ?_) | (refine isl_load ?_; refine ldl ?_) | (refine isl_store ?_; refine srl ?_) | (refine isl_alloc ?_; refine all' ?_) | (refine isl_box ?_; refine bxl ?_) | refine dr Try.follows ?_)
    exact go_ret1 rfl rfl ⟨_, rfl, rfl, by (repeat (first | exact Fr.refl _ _ | assumption | apply Fr.drewN | apply Fr.alloc | (apply Fr.transF; assumption) | (refine Fr.setRow ?_ _ (by first | exact Or.inr (by (first | omega | (simp; done) | (simp; omega))) | (exact Or.inl (by first | assumption | (simp; done)))))))⟩
  | succ j =>
    by_cases hj : j < D.slots.length
    · rw [Dp.al_get hj]
      obtain ⟨b, o, e, _, hcell⟩ := hs'.at (m := 11) slt_len (by omega) hj
      subst e
      have e0 := hcell 0 (.bool D.slots[j].on) rfl
      generalize D.slots[j].on = x at *
      repeat (first | refine sp ?_ | (refine is_load ?_; refine ld ?_) | (refine is_store ?_; refine sr ?_) | (refine is_alloc ?_; refine al ?_) | (refine is_box ?_; refine bx ?_) | (refine isl_load ?_; refine ldl ?_) | (refine isl_store ?_; refine srl ?_) | (refine isl_alloc ?_; refine all' ?_) | (refine isl_box ?_; refine bxl ?_) | refine dr Try.follows ?_)
      refine go_as 20 (u' := .int .u32 (j : Int)) rfl (by congr 1; omega) ?_
      refine go_name (F := fun w1 => w1.cell? ⟨b, o + j * 11 + 0, none⟩ = some (.bool x) ∧ Ext w w1) ⟨Fr.cell (S := fun _ => False) (w := w) (by (repeat (first | exact Fr.refl _ _ | assumption | apply Fr.drewN | apply Fr.alloc | (apply Fr.transF; assumption) | (refine Fr.setRow ?_ _ (by first | exact Or.inr (by (first | omega | (simp; done) | (simp; omega))) | (exact Or.inl (by first | assumption | (simp; done)))))))) e0 id, by (repeat (first | exact Fr.refl _ _ | assumption | apply Fr.drewN | apply Fr.alloc | (apply Fr.transF; assumption) | (refine Fr.setRow ?_ _ (by first | exact Or.inr (by (first | omega | (simp; done) | (simp; omega))) | (exact Or.inl (by first | assumption | (simp; done)))))))⟩ ?_
      rintro w1 ⟨e1, hx1⟩
      repeat (first | refine sp ?_ | (refine is_load ?_; refine ld ?_) | (refine is_store ?_; refine sr ?_) | (refine is_alloc ?_; refine al ?_) | (refine is_box ?_; refine bx ?_) | (refine isl_load ?_; refine ldl ?_) | (refine isl_store ?_; refine srl ?_) | (refine isl_alloc ?_; refine all' ?_) | (refine isl_box ?_; refine bxl ?_) | refine dr Try.follows ?_)
      exact go_ret1 rfl rfl ⟨_, rfl, rfl, hx1⟩
    · rw [Dp.al_out (by omega)]
      repeat (first | refine sp ?_ | (refine is_load ?_; refine ld ?_) | (refine is_store ?_; refine sr ?_) | (refine is_alloc ?_; refine al ?_) | (refine is_box ?_; refine bx ?_) | (refine isl_load ?_; refine ldl ?_) | (refine isl_store ?_; refine srl ?_) | (refine isl_alloc ?_; refine all' ?_) | (refine isl_box ?_; refine bxl ?_) | refine dr Try.follows ?_)
      exact go_ret1 rfl rfl ⟨_, rfl, rfl, by (repeat (first | exact Fr.refl _ _ | assumption | apply Fr.drewN | apply Fr.alloc | (apply Fr.transF; assumption) | (refine Fr.setRow ?_ _ (by first | exact Or.inr (by (first | omega | (simp; done) | (simp; omega))) | (exact Or.inl (by first | assumption | (simp; done)))))))⟩

theorem c_kids (w : World) (s : Slt) :
    Calls Try.prog 64 [.agg ⟨s.cells⟩].toArray w (Ret fun r w' => r = .agg ⟨[.int .u32 (s.nd.left : Int), .int .u32 (s.nd.right : Int)]⟩ ∧ Ext w w') := by
  unfold Slt.cells
  refine calls_go Try.func64 rfl Try.ntmps64 (Nat.le_of_ble_eq_true rfl) ?_
  repeat (first | refine sp ?_ | (refine is_load ?_; refine ld ?_) | (refine is_store ?_; refine sr ?_) | (refine is_alloc ?_; refine al ?_) | (refine is_box ?_; refine bx ?_) | (refine isl_load ?_; refine ldl ?_) | (refine isl_store ?_; refine srl ?_) | (refine isl_alloc ?_; refine all' ?_) | (refine isl_box ?_; refine bxl ?_) | refine dr Try.follows ?_)
  exact go_ret1 rfl ⟨_, rfl, Ld.run (ld_part (by (repeat (first | assumption | (refine At.new' (by (first | omega | (simp; done) | (simp; omega))) _ _) | apply At.alloc | apply At.drewN | apply At.setRow | (apply At.setRow_neF; first | assumption | (apply Ne.symm; assumption) | omega) | (apply At.extF; assumption)))) rfl rfl)⟩ ⟨_, rfl, rfl, by (repeat (first | exact Fr.refl _ _ | assumption | apply Fr.drewN | apply Fr.alloc | (apply Fr.transF; assumption) | (refine Fr.setRow ?_ _ (by first | exact Or.inr (by (first | omega | (simp; done) | (simp; omega))) | (exact Or.inl (by first | assumption | (simp; done)))))))⟩

theorem pr_idx2 {st : St} {x y : Operand} {b j : Nat} {i : Int} {kd : IntKind} (hx : evS st x = some (.pointer (some ⟨b, 0, none⟩))) (hy : evS st y = some (.int kd i)) (hi : i = (j : Int)) (hj : j < 2) :
    PureRun Try.prog st (.indexAddr 98 x y) (.pointer (some ⟨b, j, none⟩)) := by
  have h := pr_indexA (P := Try.prog) (t := 98) (e := 27) (m := 1) (by kernel_rfl) (by decide) hx hy hi hj
  simpa using h

/-- A slice of numbers that fills its own block. -/
def IntsAt (w : World) (lo : Nat) (v : Value) (f : Nat → Int) (n : Nat) : Prop := ∃ b, v = .slice (some ⟨b, 0, none⟩) n n ∧ lo ≤ b ∧ At w b (cellsF (fun j => [.int .i64 (f j)]) n) 3
theorem IntsAt.ext {w w' : World} {lo : Nat} {v : Value} {f : Nat → Int} {n : Nat} (h : IntsAt w lo v f n) (hx : Ext w w') : IntsAt w' lo v f n := by
  obtain ⟨b, e, hb, ha⟩ := h; exact ⟨b, e, hb, ha.ext hx⟩
def BoolsAt (w : World) (lo : Nat) (v : Value) (f : Nat → Bool) (n : Nat) : Prop := ∃ b, v = .slice (some ⟨b, 0, none⟩) n n ∧ lo ≤ b ∧ At w b (cellsF (fun j => [.bool (f j)]) n) 4
theorem BoolsAt.ext {w w' : World} {lo : Nat} {v : Value} {f : Nat → Bool} {n : Nat} (h : BoolsAt w lo v f n) (hx : Ext w w') : BoolsAt w' lo v f n := by
  obtain ⟨b, e, hb, ha⟩ := h; exact ⟨b, e, hb, ha.ext hx⟩

theorem count_snoc (l : List Nat) (x j : Nat) : ((l ++ [x]).count j : Int) = (l.count j : Int) + (if x = j then 1 else 0) := by
  rw [List.count_append, List.count_singleton]
  by_cases h : x = j <;> simp [h]

theorem bump {l : List Nat} {x n : Nat} (hx : x < n) : (cellsF (fun j => [Value.int .i64 (l.count (j + 1) : Int)]) n).set x (.int .i64 ((l.count (x + 1) : Int) + 1)) = cellsF (fun j => [Value.int .i64 ((l ++ [x + 1]).count (j + 1) : Int)]) n := by
  rw [one_set' (Value.int .i64) (fun j => (l.count (j + 1) : Int)) hx]
  refine cellsF_congr fun j _ => ?_
  rw [count_snoc]
  unfold upd
  by_cases h : j = x
  · subst h; simp
  · rw [if_neg h, if_neg (by omega)]; simp
theorem nobump {l : List Nat} {x n : Nat} (hx : x = 0 ∨ n < x) : cellsF (fun j => [Value.int .i64 (l.count (j + 1) : Int)]) n = cellsF (fun j => [Value.int .i64 ((l ++ [x]).count (j + 1) : Int)]) n := by
  refine cellsF_congr fun j hj => ?_
  rw [count_snoc, if_neg (by omega)]; simp

set_option maxHeartbeats 1000000 in
theorem c_counts (w : World) (hi : Nat) (lv : Value) (l : List Nat) (n : Nat) (hr : RdU w hi lv u32c l) (hh : hi ≤ w.heap.size) (hl : l.length ≤ 1000000) (hn : n ≤ 1000000) (hb : ∀ x ∈ l, x < 4294967296) :
    Calls Try.prog 70 [lv, .int .i64 (n : Int)].toArray w (Ret fun r w' => IntsAt w' w.heap.size r (fun j => (l.count (j + 1) : Int)) n ∧ Ext w w') := by
  have hr0 := hr
  obtain ⟨sa, cap, rfl, hlc, _, _⟩ := hr0
  refine calls_go Try.func70 rfl Try.ntmps70 (Nat.le_of_ble_eq_true rfl) ?_
  repeat (first | refine sp ?_ | (refine is_load ?_; refine ld ?_) | (refine is_store ?_; refine sr ?_) | (refine is_alloc ?_; refine al ?_) | (refine is_box ?_; refine bx ?_) | (refine isl_load ?_; refine ldl ?_) | (refine isl_store ?_; refine srl ?_) | (refine isl_alloc ?_; refine all' ?_) | (refine isl_box ?_; refine bxl ?_) | refine dr Try.follows ?_)
  refine go_makeF (c := n) rfl rfl rfl rfl rfl (by omega) (by unfold maxLen; omega) rfl ?_
  repeat (first | refine sp ?_ | (refine is_load ?_; refine ld ?_) | (refine is_store ?_; refine sr ?_) | (refine is_alloc ?_; refine al ?_) | (refine is_box ?_; refine bx ?_) | (refine isl_load ?_; refine ldl ?_) | (refine isl_store ?_; refine srl ?_) | (refine isl_alloc ?_; refine all' ?_) | (refine isl_box ?_; refine bxl ?_) | refine dr Try.follows ?_)
  refine go_loop (G := Nat) [6] (fun k => [.int .i64 (k : Int)]) [(0, .slice sa l.length cap), (1, .int .i64 (n : Int)), (5, .slice (some ⟨w.heap.size, 0, none⟩) n n)]
    (fun k w' => k ≤ l.length ∧ At w' w.heap.size (cellsF (fun j => [.int .i64 ((l.take k).count (j + 1) : Int)]) n) 3 ∧ Ext w w') (fun k => l.length - k) 0 rfl ⟨rfl, rfl, rfl, trivial⟩ ⟨by omega, by simpa using (At.new w (cellsF (fun _ => [.int .i64 0]) n) 3), by (repeat (first | exact Fr.refl _ _ | assumption | apply Fr.drewN | apply Fr.alloc | (apply Fr.transF; assumption) | (refine Fr.setRow ?_ _ (by first | exact Or.inr (by (first | omega | (simp; done) | (simp; omega))) | (exact Or.inl (by first | assumption | (simp; done)))))))⟩ ?_
  rintro k w1 ⟨hk, hat, hx1⟩
  by_cases hlt : k < l.length
  · obtain ⟨b, o, e, hbl, hcell⟩ := (hr.ext hx1).at (m := 1) (fun _ => rfl) (by omega) hlt
    subst e
    have e0 : w1.cell? ⟨b, o + k, none⟩ = some (.int .u32 (l[k] : Int)) := by have := hcell 0 (.int .u32 (l[k] : Int)) rfl; simpa using this
    have hbx := hb _ (List.getElem_mem hlt)
    have hts : l.take (k + 1) = l.take k ++ [l[k]] := List.take_succ_eq_append_getElem hlt
    generalize l[k] = x at *
    have hsz := hx1.size
    by_cases h1 : x = 0 ∨ n < x
    · rw [nobump h1, ← hts] at hat
      by_cases h0 : x = 0
      · repeat (first | refine sp ?_ | (refine is_load ?_; refine ld ?_) | (refine is_store ?_; refine sr ?_) | (refine is_alloc ?_; refine al ?_) | (refine is_box ?_; refine bx ?_) | (refine isl_load ?_; refine ldl ?_) | (refine isl_store ?_; refine srl ?_) | (refine isl_alloc ?_; refine all' ?_) | (refine isl_box ?_; refine bxl ?_) | refine dr Try.follows ?_)
        exact go_stop (G := Nat) (k + 1) rfl ⟨rfl, rfl, rfl, trivial⟩ ⟨hlt, hat, hx1⟩ (by show l.length - (k + 1) < l.length - k; omega)
      · repeat (first | refine sp ?_ | (refine is_load ?_; refine ld ?_) | (refine is_store ?_; refine sr ?_) | (refine is_alloc ?_; refine al ?_) | (refine is_box ?_; refine bx ?_) | (refine isl_load ?_; refine ldl ?_) | (refine isl_store ?_; refine srl ?_) | (refine isl_alloc ?_; refine all' ?_) | (refine isl_box ?_; refine bxl ?_) | refine dr Try.follows ?_)
        exact go_stop (G := Nat) (k + 1) rfl ⟨rfl, rfl, rfl, trivial⟩ ⟨hlt, hat, hx1⟩ (by show l.length - (k + 1) < l.length - k; omega)
    · obtain ⟨y, rfl⟩ : ∃ y, x = y + 1 := ⟨x - 1, by omega⟩
      have hcl : (cellsF (fun j => [Value.int .i64 ((l.take k).count (j + 1) : Int)]) n)[0 + y]? = some (.int .i64 ((l.take k).count (y + 1) : Int)) := by
        rw [Nat.zero_add]; exact one_get (f := fun j => Value.int .i64 ((l.take k).count (j + 1) : Int)) (by omega)
      have hcb : (l.take k).count (y + 1) ≤ 1000000 := Nat.le_trans List.count_le_length (by rw [List.length_take]; omega)
      repeat (first | refine sp ?_ | (refine is_load ?_; refine ld ?_) | (refine is_store ?_; refine sr ?_) | (refine is_alloc ?_; refine al ?_) | (refine is_box ?_; refine bx ?_) | (refine isl_load ?_; refine ldl ?_) | (refine isl_store ?_; refine srl ?_) | (refine isl_alloc ?_; refine all' ?_) | (refine isl_box ?_; refine bxl ?_) | refine dr Try.follows ?_)
      refine go_as 35 (u' := .int .u32 (y : Int)) rfl (by congr 1; omega) ?_
      repeat (first | refine sp ?_ | (refine is_load ?_; refine ld ?_) | (refine is_store ?_; refine sr ?_) | (refine is_alloc ?_; refine al ?_) | (refine is_box ?_; refine bx ?_) | (refine isl_load ?_; refine ldl ?_) | (refine isl_store ?_; refine srl ?_) | (refine isl_alloc ?_; refine all' ?_) | (refine isl_box ?_; refine bxl ?_) | refine dr Try.follows ?_)
      rw [show (cellsF (fun j => [Value.int .i64 ((l.take k).count (j + 1) : Int)]) n).set (0 + y) (.int .i64 (((l.take k).count (y + 1) : Int) + 1)) = cellsF (fun j => [Value.int .i64 ((l.take (k + 1)).count (j + 1) : Int)]) n by rw [Nat.zero_add, hts]; exact bump (by omega)]
      exact go_stop (G := Nat) (k + 1) rfl ⟨rfl, rfl, rfl, trivial⟩ ⟨hlt, by (repeat (first | assumption | (refine At.new' (by (first | omega | (simp; done) | (simp; omega))) _ _) | apply At.alloc | apply At.drewN | apply At.setRow | (apply At.setRow_neF; first | assumption | (apply Ne.symm; assumption) | omega) | (apply At.extF; assumption))), by (repeat (first | exact Fr.refl _ _ | assumption | apply Fr.drewN | apply Fr.alloc | (apply Fr.transF; assumption) | (refine Fr.setRow ?_ _ (by first | exact Or.inr (by (first | omega | (simp; done) | (simp; omega))) | (exact Or.inl (by first | assumption | (simp; done)))))))⟩ (by show l.length - (k + 1) < l.length - k; omega)
  · obtain rfl : k = l.length := by omega
    repeat (first | refine sp ?_ | (refine is_load ?_; refine ld ?_) | (refine is_store ?_; refine sr ?_) | (refine is_alloc ?_; refine al ?_) | (refine is_box ?_; refine bx ?_) | (refine isl_load ?_; refine ldl ?_) | (refine isl_store ?_; refine srl ?_) | (refine isl_alloc ?_; refine all' ?_) | (refine isl_box ?_; refine bxl ?_) | refine dr Try.follows ?_)
    exact go_ret1 rfl rfl ⟨_, rfl, ⟨_, rfl, Nat.le_refl _, by rw [List.take_length] at hat; exact hat⟩, hx1⟩

end Go.Proofs.Ytapocbahkeoeoaa
