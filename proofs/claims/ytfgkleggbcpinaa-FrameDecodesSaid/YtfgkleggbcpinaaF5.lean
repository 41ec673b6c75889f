/-
  Slices of bytes: joining, comparing.
-/
import Derived.Test.YtfgkleggbcpinaaF4
set_option linter.unusedVariables false
namespace Go.Proofs.Ytfgkleggbcpinaa
open Go.Vc

/-- A slice of bytes of the call's own. -/
def OwnB (w : World) (lo : Nat) (v : Value) (l : List (BitVec 8)) : Prop := Own w lo 5 1 v l.length (l.map u8)

theorem OwnB.by {w : World} {lo : Nat} {v : Value} {l : List (BitVec 8)} (h : OwnB w lo v l) : By w v l := by
  obtain ⟨sa, cap, e, hc, hr⟩ := h.slice
  exact ⟨sa, cap, e, hc, hr⟩
theorem OwnB.ext {w w' : World} {lo : Nat} {v : Value} {l : List (BitVec 8)} (h : OwnB w lo v l) (f : Ext w w') : OwnB w' lo v l := Own.ext h f
theorem OwnB.nil (w : World) (lo : Nat) : OwnB w lo (.slice none 0 0) [] := Own.nil w lo _ _
theorem one_u8 (l : List (BitVec 8)) : ∀ u ∈ l.map u8, u.oneCell' = true := by
  intro u hu
  obtain ⟨x, _, rfl⟩ := List.mem_map.1 hu
  rfl

section
variable {n : Nat} {Q : Exit → Act → World → Prop} {k : List It} {st : St} {w : World}
variable {all : Array Oper} {rest : List Oper} {d : Nat} {to : TypeId} {p : String} {af : Array Edge} {x y : Operand} {D : Cls}

/-- 'append(x, y...)' on bytes. -/
theorem go_appB {w0 : World} {v u : Value} {l m : List (BitVec 8)} (hd : Nat.blt d n = true) (hx : evS st x = some v) (hy : evS st y = some u) (h0 : Ext w0 w)
    (hown : OwnB w w0.heap.size v l) (hu : By w u m) (hb : l.length + m.length ≤ 140737488355328)
    (h : ∀ v' w', OwnB w' w0.heap.size v' (l ++ m) → Ext w0 w' → Go Try.prog n Q (.ops all rest :: k) ((d, v') :: st) w') :
    Go Try.prog n Q (.ops all (⟨some d, .call { callee := .builtin .append, args := #[x, y], argTypes := #[22, 22] }, to, p, af, none⟩ :: rest) :: k) st w := by
  obtain ⟨sa, cap, rfl, hc, hr⟩ := hu
  refine go_append (t := 22) (e := 5) (m := 1) (bytes := 1) (by decide) hd hx hy hown hr (by simp) (one_u8 m) (by unfold maxLen; omega) (by omega) h0.size ?_
  intro v' w' ho hg _
  refine h v' w' ?_ (ext_grown h0 (Nat.le_refl _) hown hg)
  unfold OwnB
  simpa using ho

/-- 'append(x, c)', behind the literal of one byte. -/
theorem go_pushB {w0 w1 : World} {v : Value} {l : List (BitVec 8)} {b : BitVec 8} {nb : Nat} (hd : Nat.blt d n = true) (hx : evS st x = some v) (hy : evS st y = some (.slice (some ⟨nb, 0, none⟩) 1 1)) (hw : w = w1.alloc (.cells #[u8 b] 5)) (hnb : w1.heap.size = nb) (h0 : Ext w0 w1)
    (hown : OwnB w1 w0.heap.size v l) (hb : l.length + 1 ≤ 140737488355328)
    (h : ∀ v' w', OwnB w' w0.heap.size v' (l ++ [b]) → Ext w0 w' → Go Try.prog n Q (.ops all rest :: k) ((d, v') :: st) w') :
    Go Try.prog n Q (.ops all (⟨some d, .call { callee := .builtin .append, args := #[x, y], argTypes := #[22, 22] }, to, p, af, none⟩ :: rest) :: k) st w := by
  subst hw; subst hnb
  have hx1 : Ext w1 (w1.alloc (.cells #[u8 b] 5)) := (Fr.refl _ _).alloc _
  refine go_appB hd hx hy (h0.trans hx1) (OwnB.ext hown hx1) (m := [b]) ⟨some ⟨w1.heap.size, 0, none⟩, 1, rfl, Nat.le_refl _, ?_⟩ (by simpa using hb) h
  intro j u hj
  refine ⟨_, _, rfl, ?_⟩
  have := (At.new w1 [u8 b] 5).cell (i := j) (v := u) hj
  simpa using this
end

theorem c_Join (v u : Value) (l m : List (BitVec 8)) (w : World) (hl : l.length + m.length ≤ 70368744177664) (hv : By w v l) (hu : By w u m) :
    Calls Try.prog 17 [v, u].toArray w (Ret fun r w' => OwnB w' w.heap.size r (l ++ m) ∧ Ext w w') := by
  obtain ⟨sa, cap, rfl, hcap, hr⟩ := hv
  obtain ⟨sb, cbp, rfl, hcbp, hs⟩ := hu
  refine calls_go Try.func17 rfl Try.ntmps17 (Nat.le_of_ble_eq_true rfl) ?_
  repeat (first | refine sp ?_ | (refine is_load ?_; refine ld ?_) | (refine is_store ?_; refine sr ?_) | (refine is_alloc ?_; refine al ?_) | (refine is_box ?_; refine bx ?_))
  refine go_make0 (c := l.length + m.length) rfl rfl rfl rfl (by omega) (by omega) (by unfold maxLen; omega) ?_
  intro v0 w1 ho hx
  repeat (first | refine sp ?_ | (refine is_load ?_; refine ld ?_) | (refine is_store ?_; refine sr ?_) | (refine is_alloc ?_; refine al ?_) | (refine is_box ?_; refine bx ?_))
  refine go_loop (G := Nat × Value) [6, 5] (fun g => [.int .i64 g.1, g.2]) [(0, .slice sa l.length cap), (1, .slice sb m.length cbp)]
    (fun g w' => g.1 ≤ l.length ∧ OwnB w' w.heap.size g.2 (l.take g.1) ∧ Ext w w') (fun g => l.length - g.1) (0, v0) rfl ⟨rfl, rfl, trivial⟩ ⟨by omega, ho, hx⟩ ?_
  rintro ⟨i, v1⟩ w2 ⟨hi, ho1, hx1⟩
  simp only at hi ho1
  by_cases hlt : i < l.length
  · obtain ⟨b, o, rfl, hc⟩ := (hr.ext hx1).get hlt
    have hlx : l.take (i+1) = l.take i ++ [l[i]] := by rw [List.take_succ_eq_append_getElem hlt]
    have hlen : (l.take i).length = i := by simp; omega
    repeat (first | refine sp ?_ | (refine is_load ?_; refine ld ?_) | (refine is_store ?_; refine sr ?_) | (refine is_alloc ?_; refine al ?_) | (refine is_box ?_; refine bx ?_))
    refine go_lit rfl rfl rfl (by decide) (by decide) rfl ?_
    refine go_pushB rfl rfl rfl rfl rfl hx1 ho1 (by omega) ?_
    intro v2 w3 ho2 hx2
    repeat (first | refine sp ?_ | (refine is_load ?_; refine ld ?_) | (refine is_store ?_; refine sr ?_) | (refine is_alloc ?_; refine al ?_) | (refine is_box ?_; refine bx ?_))
    exact go_stop (G := Nat × Value) (i+1, v2) rfl ⟨rfl, rfl, trivial⟩ ⟨by show i + 1 ≤ l.length; omega, by rw [hlx]; exact ho2, hx2⟩ (by show l.length - (i+1) < l.length - i; omega)
  · obtain rfl : i = l.length := by omega
    repeat (first | refine sp ?_ | (refine is_load ?_; refine ld ?_) | (refine is_store ?_; refine sr ?_) | (refine is_alloc ?_; refine al ?_) | (refine is_box ?_; refine bx ?_))
    refine go_loop (G := Nat × Value) [7, 5] (fun g => [.int .i64 g.1, g.2]) [(0, .slice sa l.length cap), (1, .slice sb m.length cbp)]
      (fun g w' => g.1 ≤ m.length ∧ OwnB w' w.heap.size g.2 (l ++ m.take g.1) ∧ Ext w w') (fun g => m.length - g.1) (0, v1) rfl ⟨rfl, rfl, trivial⟩ ⟨by omega, by simpa using ho1, hx1⟩ ?_
    rintro ⟨i, v1⟩ w2 ⟨hi, ho1, hx1⟩
    simp only at hi ho1
    by_cases hlt : i < m.length
    · obtain ⟨b, o, rfl, hc⟩ := (hs.ext hx1).get hlt
      have hlx : m.take (i+1) = m.take i ++ [m[i]] := by rw [List.take_succ_eq_append_getElem hlt]
      have hlen : (l ++ m.take i).length = l.length + i := by simp; omega
      repeat (first | refine sp ?_ | (refine is_load ?_; refine ld ?_) | (refine is_store ?_; refine sr ?_) | (refine is_alloc ?_; refine al ?_) | (refine is_box ?_; refine bx ?_))
      refine go_lit rfl rfl rfl (by decide) (by decide) rfl ?_
      refine go_pushB rfl rfl rfl rfl rfl hx1 ho1 (by omega) ?_
      intro v2 w3 ho2 hx2
      repeat (first | refine sp ?_ | (refine is_load ?_; refine ld ?_) | (refine is_store ?_; refine sr ?_) | (refine is_alloc ?_; refine al ?_) | (refine is_box ?_; refine bx ?_))
      exact go_stop (G := Nat × Value) (i+1, v2) rfl ⟨rfl, rfl, trivial⟩ ⟨by show i + 1 ≤ m.length; omega, by rw [hlx, ← List.append_assoc]; exact ho2, hx2⟩ (by show m.length - (i+1) < m.length - i; omega)
    · obtain rfl : i = m.length := by omega
      repeat (first | refine sp ?_ | (refine is_load ?_; refine ld ?_) | (refine is_store ?_; refine sr ?_) | (refine is_alloc ?_; refine al ?_) | (refine is_box ?_; refine bx ?_))
      refine go_ret1 rfl rfl ⟨_, rfl, ?_, hx1⟩
      simpa using ho1

def sameB (l m : List (BitVec 8)) : Bool := decide (l = m)

theorem c_Same (v u : Value) (l m : List (BitVec 8)) (w : World) (hl : l.length ≤ 9223372036854775807) (hv : By w v l) (hu : By w u m) :
    Calls Try.prog 20 [v, u].toArray w (Ret fun r w' => r = .bool (sameB l m) ∧ Ext w w') := by
  obtain ⟨sa, cap, rfl, hcap, hr⟩ := hv
  obtain ⟨sb, cbp, rfl, hcbp, hs⟩ := hu
  refine calls_go Try.func20 rfl Try.ntmps20 (Nat.le_of_ble_eq_true rfl) ?_
  by_cases hlen : l.length = m.length
  · repeat (first | refine sp ?_ | (refine is_load ?_; refine ld ?_) | (refine is_store ?_; refine sr ?_) | (refine is_alloc ?_; refine al ?_) | (refine is_box ?_; refine bx ?_))
    refine go_loop (G := Nat) [5] (fun g => [.int .i64 g]) [(0, .slice sa l.length cap), (1, .slice sb m.length cbp)]
      (fun g w' => g ≤ l.length ∧ (∀ j (h : j < l.length) (h' : j < m.length), j < g → l[j] = m[j]) ∧ Ext w w') (fun g => l.length - g) 0 rfl ⟨rfl, rfl, trivial⟩ ⟨by omega, fun j _ _ h => by omega, Fr.refl _ _⟩ ?_
    rintro i w2 ⟨hi, hall, hx⟩
    by_cases hlt : i < l.length
    · obtain ⟨b, o, rfl, hc⟩ := (hr.ext hx).get hlt
      obtain ⟨b', o', rfl, hc'⟩ := (hs.ext hx).get (show i < m.length by omega)
      by_cases he : l[i] = m[i]'(by omega)
      · have he' : ((l[i].toNat : Nat) : Int) = ((m[i]'(by omega)).toNat : Nat) := by rw [he]
        repeat (first | refine sp ?_ | (refine is_load ?_; refine ld ?_) | (refine is_store ?_; refine sr ?_) | (refine is_alloc ?_; refine al ?_) | (refine is_box ?_; refine bx ?_) | (refine isl_load ?_; refine ldl ?_) | (refine isl_store ?_; refine srl ?_) | (refine isl_alloc ?_; refine all' ?_) | (refine isl_box ?_; refine bxl ?_) | refine dr Try.follows ?_)
        refine go_stop (i+1) rfl ⟨rfl, rfl, trivial⟩ ⟨by omega, ?_, ?_⟩ (by show l.length - (i+1) < l.length - i; omega)
        · intro j h h' hj
          by_cases hji : j = i
          · subst hji; exact he
          · exact hall j h h' (by omega)
        · (repeat (first | exact Fr.refl _ _ | assumption | apply Fr.drewN | apply Fr.alloc | (refine Fr.setRow ?_ _ (by first | exact Or.inr (by (first | omega | (simp; done) | (simp; omega))) | (exact Or.inl (by first | assumption | (simp; done)))))))
      · have he' : ((l[i].toNat : Nat) : Int) ≠ ((m[i]'(by omega)).toNat : Nat) := fun e => he (BitVec.eq_of_toNat_eq (by omega))
        repeat (first | refine sp ?_ | (refine is_load ?_; refine ld ?_) | (refine is_store ?_; refine sr ?_) | (refine is_alloc ?_; refine al ?_) | (refine is_box ?_; refine bx ?_) | (refine isl_load ?_; refine ldl ?_) | (refine isl_store ?_; refine srl ?_) | (refine isl_alloc ?_; refine all' ?_) | (refine isl_box ?_; refine bxl ?_) | refine dr Try.follows ?_)
        refine go_ret1 rfl rfl ⟨_, rfl, ?_, ?_⟩
        · unfold sameB
          rw [decide_eq_false]
          intro e
          subst e
          exact he rfl
        · (repeat (first | exact Fr.refl _ _ | assumption | apply Fr.drewN | apply Fr.alloc | (refine Fr.setRow ?_ _ (by first | exact Or.inr (by (first | omega | (simp; done) | (simp; omega))) | (exact Or.inl (by first | assumption | (simp; done)))))))
    · obtain rfl : i = l.length := by omega
      repeat (first | refine sp ?_ | (refine is_load ?_; refine ld ?_) | (refine is_store ?_; refine sr ?_) | (refine is_alloc ?_; refine al ?_) | (refine is_box ?_; refine bx ?_))
      refine go_ret1 rfl rfl ⟨_, rfl, ?_, hx⟩
      unfold sameB
      rw [decide_eq_true]
      exact List.ext_getElem hlen (fun j h h' => hall j h h' h)
  · repeat (first | refine sp ?_ | (refine is_load ?_; refine ld ?_) | (refine is_store ?_; refine sr ?_) | (refine is_alloc ?_; refine al ?_) | (refine is_box ?_; refine bx ?_))
    refine go_ret1 rfl rfl ⟨_, rfl, ?_, Fr.refl _ _⟩
    unfold sameB
    rw [decide_eq_false]
    intro e
    subst e
    exact hlen rfl

end Go.Proofs.Ytfgkleggbcpinaa
