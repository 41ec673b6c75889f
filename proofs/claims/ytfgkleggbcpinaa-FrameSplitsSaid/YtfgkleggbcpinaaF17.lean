/-
  Split.
-/
import Derived.Test.YtfgkleggbcpinaaF16
set_option linter.unusedVariables false
namespace Go.Vc
theorem Own.grown {w w' : World} {lo : Nat} {e : TypeId} {m n : Nat} {u v : Value} {xs : List Value} (h : Own w lo e m u n xs) (hg : w.grownBy w' v.ownBlock) (hne : ∀ b, u.ownBlock = some b → v.ownBlock ≠ some b) : Own w' lo e m u n xs := by
  refine ⟨h.1, ?_⟩
  rcases h.2 with h2 | ⟨g, cap, cur, hv, hb, hh, r⟩
  · exact Or.inl h2
  · refine Or.inr ⟨g, cap, cur, hv, hb, (hg.block g (Array.getElem?_eq_some_iff.1 hh).1 (fun e => ?_)).trans hh, r⟩
    subst hv
    exact hne g rfl e.symm

/-- Blocks of different element types are different. -/
theorem Own.ne {w : World} {lo lo' : Nat} {e e' : TypeId} {m m' n n' : Nat} {u v : Value} {xs xs' : List Value} (h : Own w lo e m u n xs) (h' : Own w lo' e' m' v n' xs') (he : e ≠ e') : ∀ b, u.ownBlock = some b → v.ownBlock ≠ some b := by
  intro b hu hv
  rcases h.2 with ⟨rfl, _⟩ | ⟨g, cap, cur, rfl, _, hh, _⟩
  · cases hu
  rcases h'.2 with ⟨rfl, _⟩ | ⟨g', cap', cur', rfl, _, hh', _⟩
  · cases hv
  simp only [Value.ownBlock, Option.some.injEq] at hu hv
  subst hu; subst hv
  rw [hh] at hh'
  simp only [Option.some.injEq, Obj.cells.injEq] at hh'
  exact he hh'.2.1
end Go.Vc
namespace Go.Proofs.Ytfgkleggbcpinaa
open Go.Vc

/-- A slice of slices of bytes, all of the call's own. -/
def Ls (w : World) (lo : Nat) (v : Value) (ls : List (List (BitVec 8))) : Prop :=
  ∃ vs, Own w lo 22 1 v ls.length vs ∧ ∀ (i : Nat) (u : Value) (l : List (BitVec 8)), vs[i]? = some u → ls[i]? = some l → OwnB w lo u l

theorem Ls.nil (w : World) (lo : Nat) : Ls w lo (.slice none 0 0) [] := ⟨[], Own.nil _ _ _ _, fun i u l h => by simp at h⟩
theorem Ls.ext {w w' : World} {lo : Nat} {v : Value} {ls : List (List (BitVec 8))} (h : Ls w lo v ls) (f : Ext w w') : Ls w' lo v ls := by
  obtain ⟨vs, h1, h2⟩ := h
  exact ⟨vs, h1.ext f, fun i u l hu hl => (h2 i u l hu hl).ext f⟩

section
variable {n : Nat} {Q : Exit → Act → World → Prop} {k : List It} {st : St} {w : World}
variable {all : Array Oper} {rest : List Oper} {d : Nat} {to : TypeId} {p : String} {af : Array Edge} {x y : Operand} {D : Cls}

/-- 'append(x, c)', behind the literal of one slice of bytes. -/
theorem go_pushL {w0 w1 : World} {v u : Value} {ls : List (List (BitVec 8))} {b : List (BitVec 8)} {nb : Nat} (hd : Nat.blt d n = true) (hx : evS st x = some v) (hy : evS st y = some (.slice (some ⟨nb, 0, none⟩) 1 1)) (hw : w = w1.alloc (.cells #[u] 22)) (hnb : w1.heap.size = nb) (h0 : Ext w0 w1)
    (hown : Ls w1 w0.heap.size v ls) (hu : OwnB w1 w0.heap.size u b) (hb : ls.length + 1 ≤ 2000000000000)
    (h : ∀ v' w', Ls w' w0.heap.size v' (ls ++ [b]) → Ext w0 w' → Go Try.prog n Q (.ops all rest :: k) ((d, v') :: st) w') :
    Go Try.prog n Q (.ops all (⟨some d, .call { callee := .builtin .append, args := #[x, y], argTypes := #[42, 42] }, to, p, af, none⟩ :: rest) :: k) st w := by
  subst hw; subst hnb
  have hx1 : Ext w1 (w1.alloc (.cells #[u] 22)) := (Fr.refl _ _).alloc _
  obtain ⟨vs, ho, hi⟩ := hown.ext hx1
  have hu1 := hu.ext hx1
  have hone : u.oneCell' = true := by
    obtain ⟨sa, cap, rfl, _⟩ := hu.by
    rfl
  refine go_append (t := 42) (e := 22) (m := 1) (bytes := 24) (r := 1) (news := [u]) (by decide) hd hx hy ho ?_ rfl (by intro x hx; simp at hx; subst hx; exact hone) (by unfold maxLen; omega) (by omega) (h0.trans hx1).size ?_
  · intro j q hj
    refine ⟨_, _, rfl, ?_⟩
    have := (At.new w1 [u] 22).cell (i := j) (v := q) hj
    simpa using this
  intro v' w' ho' hg _
  refine h v' w' ⟨vs ++ [u], by simpa using ho', ?_⟩ (ext_grown (h0.trans hx1) (Nat.le_refl _) ho hg)
  have hlen : vs.length = ls.length := by have := ho.1; omega
  intro i q m hq hm
  by_cases hlt : i < ls.length
  · rw [List.getElem?_append_left (by omega)] at hq
    rw [List.getElem?_append_left (by omega)] at hm
    have := hi i q m hq hm
    exact Own.grown this hg (Own.ne this ho (by decide))
  · have hii : i = ls.length := by
      have := (List.getElem?_eq_some_iff.1 hm).1
      simp at this; omega
    subst hii
    simp at hm
    rw [List.getElem?_append_right (by omega)] at hq
    simp [hlen] at hq
    subst hq; subst hm
    exact Own.grown hu1 hg (Own.ne hu1 ho (by decide))
end

theorem splitF_step {f : Nat} {l : List (BitVec 8)} {a : Nat} : splitF (f+1) l a = if (nextP l (a : Int)).2.2 ≠ 0 then ([], a) else ((nextP l (a : Int)).1 :: (splitF f l (nextP l (a : Int)).2.1).1, (splitF f l (nextP l (a : Int)).2.1).2) := rfl

theorem c_Split (v : Value) (l : List (BitVec 8)) (w : World) (hl : l.length ≤ 1000000000000) (hv : By w v l) :
    Calls Try.prog 24 [v].toArray w (Ret fun r w' => ∃ x, r = .tuple #[x, .int .i64 ((splitF (l.length + 1) l 0).2 : Int)] ∧ Ls w' w.heap.size x (splitF (l.length + 1) l 0).1 ∧ Ext w w') := by
  have hb := hv
  obtain ⟨sa, cap, rfl, hcap, hr⟩ := hv
  refine calls_go Try.func24 rfl Try.ntmps24 (Nat.le_of_ble_eq_true rfl) ?_
  repeat (first | refine sp ?_ | (refine is_load ?_; refine ld ?_) | (refine is_store ?_; refine sr ?_) | (refine is_alloc ?_; refine al ?_) | (refine is_box ?_; refine bx ?_))
  refine go_loop (G := Nat × Nat × List (List (BitVec 8)) × Value) [4, 5] (fun ⟨_, a, _, v⟩ => [v, .int .i64 (a : Int)]) [(0, .slice sa l.length cap)]
    (fun ⟨f, a, done, v⟩ w' => a ≤ l.length ∧ l.length - a < f ∧ splitF (l.length + 1) l 0 = (done ++ (splitF f l a).1, (splitF f l a).2) ∧ done.length ≤ a ∧ Ls w' w.heap.size v done ∧ Ext w w') (fun g => g.1)
    (l.length + 1, 0, [], .slice none 0 0) rfl ⟨rfl, trivial⟩ ⟨by omega, by omega, by simp, by simp, Ls.nil _ _, Fr.refl _ _⟩ ?_
  rintro ⟨f, a, done, vd⟩ w1 ⟨ha, hf, hs, hdl, ho, hx⟩
  rw [hs]
  obtain ⟨f, rfl⟩ : ∃ f', f = f' + 1 := ⟨f - 1, by omega⟩
  rw [splitF_step]
  have hbd := @nextP_bd l a
  repeat (first | refine sp ?_ | (refine is_load ?_; refine ld ?_) | (refine is_store ?_; refine sr ?_) | (refine is_alloc ?_; refine al ?_) | (refine is_box ?_; refine bx ?_))
  refine go_call rfl rfl (c_Next _ l a w1 (by omega) (hb.ext hx) (by omega)) ?_
  rintro r w2 ⟨x, rfl, hox, hx2⟩
  generalize hq : nextP l (a : Int) = q at *
  obtain ⟨pay, nx, er⟩ := q
  simp only [Int.toNat_natCast] at hbd hox ⊢
  by_cases he : er ≠ 0
  · rw [if_pos he]
    repeat (first | refine sp ?_ | (refine is_load ?_; refine ld ?_) | (refine is_store ?_; refine sr ?_) | (refine is_alloc ?_; refine al ?_) | (refine is_box ?_; refine bx ?_))
    exact go_ret2 rfl rfl rfl ⟨_, rfl, _, rfl, by simpa using ho.ext hx2, hx.trans hx2⟩
  · obtain rfl : er = 0 := by omega
    rw [if_neg (by simp)]
    have hbd2 := hbd.2.2 rfl
    obtain ⟨sx, cx, rfl, hcx, hrx⟩ := hox.by
    repeat (first | refine sp ?_ | (refine is_load ?_; refine ld ?_) | (refine is_store ?_; refine sr ?_) | (refine is_alloc ?_; refine al ?_) | (refine is_box ?_; refine bx ?_))
    refine go_lit rfl rfl rfl (by decide) (by decide) rfl ?_
    refine go_pushL rfl rfl rfl rfl rfl (hx.trans hx2) (ho.ext hx2) (OwnB.mono hox hx.size) (by omega) ?_
    intro v3 w3 ho3 hx3
    repeat (first | refine sp ?_ | (refine is_load ?_; refine ld ?_) | (refine is_store ?_; refine sr ?_) | (refine is_alloc ?_; refine al ?_) | (refine is_box ?_; refine bx ?_))
    refine go_stop (G := Nat × Nat × List (List (BitVec 8)) × Value) (f, nx, done ++ [pay], v3) rfl ⟨rfl, trivial⟩ ⟨by dsimp only; omega, by dsimp only; omega, by simp, by simp; omega, ho3, hx3⟩ (by show f < f + 1; omega)

end Go.Proofs.Ytfgkleggbcpinaa
