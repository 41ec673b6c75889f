/-
  Unsigned numbers as bit vectors; slices that are read. No condition: these are lemmas on the walk's own forms.
-/
import Derived.Test.YtapocbahkeoeoaaFacts
set_option linter.unusedVariables false
namespace Go.Vc

abbrev u8 (x : BitVec 8) : Value := .int .u8 (x.toNat : Int)
abbrev u32 (x : BitVec 32) : Value := .int .u32 (x.toNat : Int)
abbrev u64 (x : BitVec 64) : Value := .int .u64 (x.toNat : Int)

theorem wrap_nat {k : IntKind} {m : Nat} (hk : k.signed = false) (hm : m < 2 ^ k.bits) : k.wrap (m : Int) = m := by
  unfold IntKind.wrap
  rw [hk]
  simp only [Bool.false_and, Bool.false_eq_true, if_false]
  exact Int.emod_eq_of_lt (by omega) (by exact_mod_cast hm)

theorem wrap8 (x : BitVec 8) : IntKind.u8.wrap (x.toNat : Int) = (x.toNat : Int) := wrap_nat (k := .u8) rfl x.isLt
theorem wrap32 (x : BitVec 32) : IntKind.u32.wrap (x.toNat : Int) = (x.toNat : Int) := wrap_nat (k := .u32) rfl x.isLt
theorem wrap64 (x : BitVec 64) : IntKind.u64.wrap (x.toNat : Int) = (x.toNat : Int) := wrap_nat (k := .u64) rfl x.isLt

theorem ofInt_toNat {n : Nat} (x : BitVec n) : BitVec.ofInt n (x.toNat : Int) = x := by
  apply BitVec.eq_of_toNat_eq
  simp

section
variable {P : Program} {st : St} {x y : Operand} {t ty : TypeId}

theorem pr_xor32 {a b : BitVec 32} (hx : evS st x = some (u32 a)) (hy : evS st y = some (u32 b)) : PureRun P st (.binOp .xor t x y ty) (u32 (a ^^^ b)) := by
  have := pr_basic (P := P) (st := st) (op := .binOp .xor t x y ty) (v := u32 (a ^^^ b)) (by
    simp only [pureOp, hx, hy, sameKind, binI]
    show some (Value.int _ (IntKind.u32.wrap ((BitVec.ofInt 32 _ ^^^ BitVec.ofInt 32 _).toNat : Int))) = _
    rw [ofInt_toNat, ofInt_toNat, wrap32])
  exact this

theorem pr_xor8 {a b : BitVec 8} (hx : evS st x = some (u8 a)) (hy : evS st y = some (u8 b)) : PureRun P st (.binOp .xor t x y ty) (u8 (a ^^^ b)) := by
  have := pr_basic (P := P) (st := st) (op := .binOp .xor t x y ty) (v := u8 (a ^^^ b)) (by
    simp only [pureOp, hx, hy, sameKind, binI]
    show some (Value.int _ (IntKind.u8.wrap ((BitVec.ofInt 8 _ ^^^ BitVec.ofInt 8 _).toNat : Int))) = _
    rw [ofInt_toNat, ofInt_toNat, wrap8])
  exact this

theorem pr_xor32c {a : BitVec 32} {c : Int} (b : BitVec 32) (hx : evS st x = some (u32 a)) (hy : evS st y = some (.int .u32 c)) (hc : c = (b.toNat : Int)) : PureRun P st (.binOp .xor t x y ty) (u32 (a ^^^ b)) :=
  pr_xor32 hx (by rw [hy, hc])

theorem pr_and32c {a : BitVec 32} {c : Int} (b : BitVec 32) (hx : evS st x = some (u32 a)) (hy : evS st y = some (.int .u32 c)) (hc : c = (b.toNat : Int)) : PureRun P st (.binOp .and t x y ty) (u32 (a &&& b)) := by
  subst hc
  have := pr_basic (P := P) (st := st) (op := .binOp .and t x y ty) (v := u32 (a &&& b)) (by
    simp only [pureOp, hx, hy, sameKind, binI]
    show some (Value.int _ (IntKind.u32.wrap ((BitVec.ofInt 32 _ &&& BitVec.ofInt 32 _).toNat : Int))) = _
    rw [ofInt_toNat, ofInt_toNat, wrap32])
  exact this

theorem pr_not32 {a : BitVec 32} (hx : evS st x = some (u32 a)) : PureRun P st (.unOp .xor t x) (u32 (~~~a)) := by
  unfold PureRun
  intro n ac w ha d to p af
  have h : IntKind.u32.wrap ((BitVec.ofInt 32 (IntKind.u32.max) ^^^ BitVec.ofInt 32 (a.toNat : Int)).toNat : Int) = ((~~~a).toNat : Int) := by
    rw [ofInt_toNat, show BitVec.ofInt 32 IntKind.u32.max = BitVec.allOnes 32 from by decide, BitVec.allOnes_xor, wrap32]
  have hs : IntKind.u32.signed = false := rfl
  simp only [execOp, ha.ev hx, Op.unary, Op.intBits, hs]
  simp only [Bool.false_eq_true, if_false, Sem.run_bind, Sem.run_pure, Result.andThen_ok]
  exact congrArg (fun z => Result.ok (Next.value (Value.int .u32 z)) w) h

theorem pr_shr32 {a : BitVec 32} {m : Nat} {k : IntKind} {c : Int} (hx : evS st x = some (u32 a)) (hy : evS st y = some (.int k c)) (hc : c = (m : Int)) (hm : m ≤ 32) : PureRun P st (.binOp .shr t x y ty) (u32 (a >>> m)) := by
  have h := pr_shr (P := P) (tx := t) (ty := ty) hx hy hc hm
  have e : ((a.toNat : Int).fdiv (2 ^ m)) = ((a >>> m).toNat : Int) := by
    rw [BitVec.toNat_ushiftRight, Nat.shiftRight_eq_div_pow, Int.fdiv_eq_ediv_of_nonneg _ (by exact_mod_cast Nat.zero_le _)]
    push_cast; rfl
  rwa [e] at h

theorem pr_shr64 {a : BitVec 64} {m : Nat} {k : IntKind} {c : Int} (hx : evS st x = some (u64 a)) (hy : evS st y = some (.int k c)) (hc : c = (m : Int)) (hm : m ≤ 64) : PureRun P st (.binOp .shr t x y ty) (u64 (a >>> m)) := by
  have h := pr_shr (P := P) (tx := t) (ty := ty) hx hy hc hm
  have e : ((a.toNat : Int).fdiv (2 ^ m)) = ((a >>> m).toNat : Int) := by
    rw [BitVec.toNat_ushiftRight, Nat.shiftRight_eq_div_pow, Int.fdiv_eq_ediv_of_nonneg _ (by exact_mod_cast Nat.zero_le _)]
    push_cast; rfl
  rwa [e] at h

theorem pr_conv32_8 {t1 t2 : TypeId} {d1 : TypeDesc} [UTy P t1 d1] [UTy P t2 (.int .u8)] {a : BitVec 32} (hx : evS st x = some (u32 a)) : PureRun P st (.convert t1 t2 x) (u8 (a.setWidth 8)) := by
  have h := pr_conv (P := P) (t1 := t1) (t2 := t2) (k2 := .u8) hx
  have e : IntKind.u8.wrap (a.toNat : Int) = ((a.setWidth 8).toNat : Int) := by
    rw [BitVec.toNat_setWidth]
    simp [IntKind.wrap, IntKind.bits, IntKind.signed]
  rwa [e] at h

theorem pr_conv64_8 {t1 t2 : TypeId} {d1 : TypeDesc} [UTy P t1 d1] [UTy P t2 (.int .u8)] {a : BitVec 64} (hx : evS st x = some (u64 a)) : PureRun P st (.convert t1 t2 x) (u8 (a.setWidth 8)) := by
  have h := pr_conv (P := P) (t1 := t1) (t2 := t2) (k2 := .u8) hx
  have e : IntKind.u8.wrap (a.toNat : Int) = ((a.setWidth 8).toNat : Int) := by
    rw [BitVec.toNat_setWidth]
    simp [IntKind.wrap, IntKind.bits, IntKind.signed]
  rwa [e] at h

theorem pr_conv8_32 {t1 t2 : TypeId} {d1 : TypeDesc} [UTy P t1 d1] [UTy P t2 (.int .u32)] {a : BitVec 8} (hx : evS st x = some (u8 a)) : PureRun P st (.convert t1 t2 x) (u32 (a.setWidth 32)) := by
  have h := pr_conv (P := P) (t1 := t1) (t2 := t2) (k2 := .u32) hx
  have e : IntKind.u32.wrap (a.toNat : Int) = ((a.setWidth 32).toNat : Int) := by
    have := a.isLt
    rw [BitVec.toNat_setWidth, wrap_nat (k := .u32) rfl (by show _ < 2 ^ 32; omega)]
    omega
  rwa [e] at h

end

/-! ### Slices that are read -/

/-- From the address 'sa' on lie the cells 'cs'. -/
def RdC (w : World) (sa : Option Addr) (cs : List Value) : Prop :=
  ∀ j u, cs[j]? = some u → ∃ b o, sa = some ⟨b, o, none⟩ ∧ w.cell? ⟨b, o + j, none⟩ = some u

/-- 'v' is a slice of bytes. -/
def By (w : World) (v : Value) (l : List (BitVec 8)) : Prop := ∃ sa cap, v = .slice sa l.length cap ∧ l.length ≤ cap ∧ RdC w sa (l.map u8)

theorem RdC.fr {S : Nat → Prop} {w w' : World} {sa : Option Addr} {cs : List Value} (h : RdC w sa cs) (f : Fr S w w') (hS : ∀ b o, sa = some ⟨b, o, none⟩ → ¬ S b) : RdC w' sa cs := by
  intro j u hj
  obtain ⟨b, o, e, hc⟩ := h j u hj
  exact ⟨b, o, e, f.cell hc (hS b o e)⟩
theorem RdC.ext {w w' : World} {sa : Option Addr} {cs : List Value} (h : RdC w sa cs) (f : Ext w w') : RdC w' sa cs := h.fr f (fun _ _ _ => id)
theorem By.ext {w w' : World} {v : Value} {l : List (BitVec 8)} (h : By w v l) (f : Ext w w') : By w' v l := by
  obtain ⟨sa, cap, e, hc, hr⟩ := h
  exact ⟨sa, cap, e, hc, hr.ext f⟩
theorem By.nil (w : World) : By w (.slice none 0 0) [] := ⟨none, 0, rfl, Nat.le_refl _, fun j u h => by simp at h⟩

theorem RdC.get {w : World} {sa : Option Addr} {l : List (BitVec 8)} (h : RdC w sa (l.map u8)) {j : Nat} (hj : j < l.length) : ∃ b o, sa = some ⟨b, o, none⟩ ∧ w.cell? ⟨b, o + j, none⟩ = some (u8 l[j]) :=
  h j _ (by simp [hj])

end Go.Vc
