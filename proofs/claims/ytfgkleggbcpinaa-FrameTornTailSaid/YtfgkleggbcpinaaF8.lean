/-
  The laws on checksums: linear, and one bit turned is seen.
-/
import Derived.Test.YtfgkleggbcpinaaF7
set_option linter.unusedVariables false
namespace Go.Vc

section
variable {P : Program} {st : St} {x y : Operand} {t ty e : TypeId} {m bytes : Nat}

/-- 'x[lo:hi]' of a slice. -/
theorem pr_slice [he : Elem P t e m bytes] {sa : Option Addr} {len cap hi : Nat} {h : Operand} {hv : Int} {k : IntKind} (hm : m ≠ 0) (hx : evS st x = some (.slice sa len cap)) (hh : evS st h = some (.int k hv)) (e1 : hv = (hi : Int)) (hc : hi ≤ cap) :
    PureRun P st (.slice t x none (some h) none) (.slice sa hi cap) := by
  unfold PureRun
  intro n a w ha d to p af
  subst e1
  obtain ⟨i, hi', hs, _⟩ := he.row
  have hz : (sizeOf e).run P w = .ok m w := by simp [sizeOf, typeInfo, hi', hs]
  simp only [execOp, ha.ev hx, Option.map_none, Option.map_some, ha.ev hh, Instr.sliceAt, Sem.run_bind, run_underlying he.u, Result.andThen_ok, Instr.slice, Instr.sliceBounds, Instr.sliceBound, asIntOf, Sem.run_pure]
  rw [if_pos (by omega)]
  simp only [Sem.run_pure, Result.andThen_ok, hz, Int.toNat_natCast, Nat.sub_zero, Nat.zero_mul]
  cases sa with
  | none => simp
  | some a => simp [Addr.add]

theorem pr_min4 {a b c d : Int} {kd : IntKind} {ts : Array TypeId} {z u : Operand} (hx : evS st x = some (.int kd a)) (hy : evS st y = some (.int kd b)) (hz : evS st z = some (.int kd c)) (hu : evS st u = some (.int kd d)) :
    PureRun P st (.call { callee := .builtin .min, args := #[x, y, z, u], argTypes := ts }) (.int kd (min (min (min a b) c) d)) := by
  unfold PureRun
  intro n ac w ha q to p af
  have h1 := ha.ev hx; have h2 := ha.ev hy; have h3 := ha.ev hz; have h4 := ha.ev hu
  have e : ∀ p q : Int, (if q < p then q else p) = min p q := fun p q => by rw [Int.min_def]; split <;> split <;> omega
  simp only [execOp, resolve, invoke, builtin]
  simp [Builtin.min_, Builtin.min2, h1, h2, h3, h4, e]
end

section
variable {P : Program} {n : Nat} {Q : Exit → Act → World → Prop} {k : List It} {st : St} {w : World}
variable {all : Array Oper} {rest : List Oper} {d : Nat} {t to e : TypeId} {p : String} {af : Array Edge} {x y : Operand} {bytes : Nat} {D : Cls}

/-- 'make([]T, c)', of elements of one cell. -/
theorem go_makeN [he : Elem P t e 1 bytes] {z : Value} [hz : Zero P e [z]] {c nb : Nat} {i j : Int} {k1 k2 : IntKind} (hd : Nat.blt d n = true) (hx : evS st x = some (.int k1 i)) (hy : evS st y = some (.int k2 j)) (hi : i = (c : Int)) (hj : j = (c : Int))
    (hb : bytes * c ≤ 281474976710656) (h63 : c ≤ maxLen) (hnb : w.heap.size = nb)
    (h : Go P n Q (.ops all rest :: k) ((d, .slice (some ⟨nb, 0, none⟩) c c) :: st) (w.alloc (.cells (List.replicate c z).toArray e))) :
    Go P n Q (.ops all (⟨some d, .makeSlice t x y, to, p, af, none⟩ :: rest) :: k) st w := by
  subst hi; subst hj; subst hnb
  obtain ⟨i, hi, hs, hby, z', hz', hzs⟩ := he.row
  obtain ⟨z0, hz0, hzc⟩ := hz.z
  have e0 : z' = z0 := by
    have h1 := hz0 w
    simp [zeroValue, typeInfo, hi, hz'] at h1
    exact h1
  subst e0
  have hr := run_make (P := P) w t e i z' he.u hi hz' k1 k2 (c : Int) (c : Int) (by omega) (Int.le_refl _) (by rw [hby, ← Int.natCast_mul]; omega) (by unfold maxLen at h63; omega)
  refine go_val hd (fun a ha => ?_) h
  simp only [Int.toNat_natCast, hs, Nat.mul_one] at hr
  have hcells : madeCells z'.cells c = (List.replicate c z).toArray := by
    unfold madeCells
    rw [hzc]
    apply Array.ext
    · simp
    · intro j h1 h2; simp [Nat.mod_one]
  rw [hcells] at hr
  have h1 := ha.ev hx; have h2 := ha.ev hy
  simp only [execOp, h1, h2]
  rw [Sem.run_bind, hr]
  rfl
end
end Go.Vc

namespace Go.Proofs.Ytfgkleggbcpinaa
open Go.Vc

/-! ### The plain laws -/

theorem stepP_xor (x y : BitVec 32) (a b : BitVec 8) : stepP (x ^^^ y) (a ^^^ b) = stepP x a ^^^ stepP y b := by
  rw [step_eq, step_eq, step_eq]
  unfold stepR
  rw [← cbits_xor]
  congr 1
  rw [BitVec.setWidth_xor]
  ac_rfl

theorem fold3 : ∀ (a b c : List (BitVec 8)) (x y z : BitVec 32), a.length = b.length → b.length = c.length →
    (List.zipWith (· ^^^ ·) (List.zipWith (· ^^^ ·) a b) c).foldl stepP (x ^^^ y ^^^ z) = a.foldl stepP x ^^^ b.foldl stepP y ^^^ c.foldl stepP z
  | [], [], [], _, _, _, _, _ => rfl
  | p :: a, q :: b, r :: c, x, y, z, h1, h2 => by
    simp only [List.zipWith_cons_cons, List.foldl_cons]
    rw [stepP_xor, stepP_xor]
    exact fold3 a b c _ _ _ (by simpa using h1) (by simpa using h2)
  | [], [], _ :: _, _, _, _, _, h => by simp at h
  | [], _ :: _, _, _, _, _, h, _ => by simp at h
  | _ :: _, [], _, _, _, _, h, _ => by simp at h
  | _ :: _, _ :: _, [], _, _, _, _, h => by simp at h

theorem affine (a b c : List (BitVec 8)) (h1 : a.length = b.length) (h2 : b.length = c.length) :
    extP 0#32 a ^^^ extP 0#32 b ^^^ extP 0#32 c = extP 0#32 (List.zipWith (· ^^^ ·) (List.zipWith (· ^^^ ·) a b) c) := by
  unfold extP
  have hz : (~~~0#32 : BitVec 32) = ~~~0#32 ^^^ ~~~0#32 ^^^ ~~~0#32 := by decide
  conv => rhs; rw [hz]
  rw [fold3 a b c _ _ _ h1 h2]
  generalize a.foldl stepP (~~~0#32) = X
  generalize b.foldl stepP (~~~0#32) = Y
  generalize c.foldl stepP (~~~0#32) = Z
  apply BitVec.eq_of_getLsbD_eq
  intro i hi
  simp only [BitVec.getLsbD_xor, BitVec.getLsbD_not, hi, decide_true, Bool.true_and]
  cases X.getLsbD i <;> cases Y.getLsbD i <;> cases Z.getLsbD i <;> rfl

theorem cbit_top (x : BitVec 32) : (cbit x).getLsbD 31 = x.getLsbD 0 := by
  rw [cbit_eq, BitVec.getLsbD_xor, BitVec.getLsbD_ushiftRight]
  cases h : x.getLsbD 0 <;> simp

theorem cbit_inj {x y : BitVec 32} (h : cbit x = cbit y) : x = y := by
  have h0 : x.getLsbD 0 = y.getLsbD 0 := by rw [← cbit_top x, ← cbit_top y, h]
  rw [cbit_eq, cbit_eq, h0] at h
  have h1 : x >>> 1 = y >>> 1 := (BitVec.xor_right_inj _).1 (by rw [BitVec.xor_comm, h, BitVec.xor_comm])
  apply BitVec.eq_of_getLsbD_eq
  intro i hi
  rcases i with _ | i
  · exact h0
  · have := congrArg (fun z => z.getLsbD i) h1
    simp only [BitVec.getLsbD_ushiftRight] at this
    rwa [Nat.add_comm] at this

theorem cbits_inj : ∀ (k : Nat) {x y : BitVec 32}, cbits k x = cbits k y → x = y
  | 0, _, _, h => h
  | k+1, _, _, h => cbits_inj k (cbit_inj h)

theorem stepP_inj {x y : BitVec 32} {b : BitVec 8} (h : stepP x b = stepP y b) : x = y := by
  rw [step_eq, step_eq] at h
  have := cbits_inj 8 h
  exact (BitVec.xor_right_inj _).1 (by rw [BitVec.xor_comm, this, BitVec.xor_comm])

theorem stepP_byte {x : BitVec 32} {a b : BitVec 8} (h : stepP x a = stepP x b) : a = b := by
  rw [step_eq, step_eq] at h
  unfold stepR at h
  have h1 := (BitVec.xor_right_inj _).1 (cbits_inj 8 h)
  have h2 := congrArg (fun z : BitVec 32 => z.setWidth 8) h1
  simpa using h2

theorem fold_inj : ∀ (l : List (BitVec 8)) {x y : BitVec 32}, l.foldl stepP x = l.foldl stepP y → x = y
  | [], _, _, h => h
  | b :: l, x, y, h => stepP_inj (fold_inj l h)

theorem detects (l : List (BitVec 8)) (i : Nat) (hi : i < l.length) (b : BitVec 8) (hb : b ≠ l[i]) (c : BitVec 32) : extP c l ≠ extP c (l.set i b) := by
  intro h
  unfold extP at h
  have h' := BitVec.not_inj.1 h
  have e1 : l = l.take i ++ l[i] :: l.drop (i+1) := by simp
  have e2 : l.set i b = l.take i ++ b :: l.drop (i+1) := by rw [List.set_eq_take_append_cons_drop, if_pos hi]
  rw [e2] at h'
  conv at h' => lhs; rw [e1]
  rw [List.foldl_append, List.foldl_append, List.foldl_cons, List.foldl_cons] at h'
  exact hb (stepP_byte (fold_inj _ h')).symm

end Go.Proofs.Ytfgkleggbcpinaa
