/-
  Slicing; the varint that begins at a position: both readers.
-/
import Derived.Test.YtfgkleggbcpinaaF11
set_option linter.unusedVariables false
namespace Go.Vc

/-- Where the cut of a slice begins. -/
def cutA (sa : Option Addr) (m cap lo : Nat) : Option Addr := if cap = lo then sa else sa.map (·.add (lo * m))

section
variable {P : Program} {st : St} {x y : Operand} {t ty e : TypeId} {m bytes : Nat}

/-- 'x[lo:hi]' of a slice; each bound may be left out. -/
theorem pr_sl [he : Elem P t e m bytes] {sa : Option Addr} {len cap lo hi : Nat} {lo? hi? : Option Operand} (hm : m ≠ 0) (hx : evS st x = some (.slice sa len cap))
    (hl : match lo? with | none => lo = 0 | some h => ∃ k v, evS st h = some (.int k v) ∧ v = (lo : Int))
    (hh : match hi? with | none => hi = len | some h => ∃ k v, evS st h = some (.int k v) ∧ v = (hi : Int)) (h1 : lo ≤ hi) (h2 : hi ≤ cap) :
    PureRun P st (.slice t x lo? hi? none) (.slice (cutA sa m cap lo) (hi - lo) (cap - lo)) := by
  unfold PureRun
  intro n a w ha d to p af
  obtain ⟨i, hi', hs, _⟩ := he.row
  have hz : (sizeOf e).run P w = .ok m w := by simp [sizeOf, typeInfo, hi', hs]
  have hL : lo?.map a.eval = none ∧ lo = 0 ∨ ∃ k, lo?.map a.eval = some (.int k (lo : Int)) := by
    cases lo? with
    | none => exact .inl ⟨rfl, hl⟩
    | some h => obtain ⟨k, v, e1, rfl⟩ := hl; exact .inr ⟨k, by rw [Option.map_some, ha.ev e1]⟩
  have hH : hi?.map a.eval = none ∧ hi = len ∨ ∃ k, hi?.map a.eval = some (.int k (hi : Int)) := by
    cases hi? with
    | none => exact .inl ⟨rfl, hh⟩
    | some h => obtain ⟨k, v, e1, rfl⟩ := hh; exact .inr ⟨k, by rw [Option.map_some, ha.ev e1]⟩
  have hb : (Instr.sliceBounds true len cap (lo?.map a.eval) (hi?.map a.eval) none).run P w = .ok (lo, hi, cap) w := by
    rcases hL with ⟨e1, rfl⟩ | ⟨k1, e1⟩ <;> rcases hH with ⟨e2, rfl⟩ | ⟨k2, e2⟩ <;> rw [e1, e2]
    · simp [Instr.sliceBounds]
    · have : (hi : Int) ≤ cap := by omega
      simp [Instr.sliceBounds, Instr.sliceBound, asIntOf, h2]
    · simp [Instr.sliceBounds, Instr.sliceBound, asIntOf, h1]
    · simp [Instr.sliceBounds, Instr.sliceBound, asIntOf, h1, h2]
  simp only [execOp, ha.ev hx, Option.map_none, Instr.sliceAt, Sem.run_bind, run_underlying he.u, Result.andThen_ok, Instr.slice, hb, hz, Sem.run_pure]
  rfl
end

theorem RdC.cut {w : World} {sa : Option Addr} {cs : List Value} {lo hi cap : Nat} (h : RdC w sa cs) (hc : hi ≤ cap) : RdC w (cutA sa 1 cap lo) ((cs.take hi).drop lo) := by
  intro j u hj
  rw [List.getElem?_drop, List.getElem?_take] at hj
  split at hj
  · rename_i hlt
    obtain ⟨b, o, rfl, hcell⟩ := h _ u hj
    refine ⟨b, o + lo, ?_, by rw [Nat.add_assoc]; exact hcell⟩
    unfold cutA
    rw [if_neg (by omega), Option.map_some, Nat.mul_one]
    unfold Addr.add
    split
    · rename_i h0; rw [h0, Nat.add_zero]
    · rfl
  · cases hj

section
variable {P : Program} {st : St} {x y : Operand} {t ty : TypeId}
theorem pr_or64N {a b : Nat} (hx : evS st x = some (.int .u64 (a : Int))) (hy : evS st y = some (.int .u64 (b : Int))) (ha : a < 18446744073709551616) (hb : b < 18446744073709551616) :
    PureRun P st (.binOp .or t x y ty) (.int .u64 ((a ||| b : Nat) : Int)) := by
  have := pr_basic (P := P) (st := st) (op := .binOp .or t x y ty) (v := .int .u64 ((a ||| b : Nat) : Int)) (by
    simp only [pureOp, hx, hy, sameKind, binI]
    show some (Value.int _ (IntKind.u64.wrap ((BitVec.ofInt 64 _ ||| BitVec.ofInt 64 _).toNat : Int))) = _
    have e1 : (BitVec.ofInt 64 (a : Int)).toNat = a := by simp; omega
    have e2 : (BitVec.ofInt 64 (b : Int)).toNat = b := by simp; omega
    rw [BitVec.toNat_or, e1, e2, wrap_nat (k := .u64) rfl (Nat.or_lt_two_pow (n := 64) (by omega) (by omega))])
  exact this

theorem pr_and127 {a : BitVec 8} {c : Int} (hx : evS st x = some (u8 a)) (hy : evS st y = some (.int .u8 c)) (hc : c = 127) : PureRun P st (.binOp .and t x y ty) (.int .u8 ((a.toNat % 128 : Nat) : Int)) := by
  subst hc
  have := pr_basic (P := P) (st := st) (op := .binOp .and t x y ty) (v := .int .u8 ((a.toNat % 128 : Nat) : Int)) (by
    simp only [pureOp, hx, hy, sameKind, binI]
    show some (Value.int _ (IntKind.u8.wrap ((BitVec.ofInt 8 _ &&& BitVec.ofInt 8 ((127#8).toNat : Int)).toNat : Int))) = _
    rw [ofInt_toNat, ofInt_toNat, wrap8]
    have h : ∀ b : BitVec 8, (b &&& 127#8).toNat = b.toNat % 128 := by decide
    rw [h])
  exact this
end
end Go.Vc

namespace Go.Proofs.Ytfgkleggbcpinaa
open Go.Vc

theorem byCut {w : World} {sa : Option Addr} {cap lo hi : Nat} {l : List (BitVec 8)} (h : RdC w sa (l.map u8)) (h1 : lo ≤ hi) (h2 : hi ≤ l.length) (hc : l.length ≤ cap) :
    By w (.slice (cutA sa 1 cap lo) (hi - lo) (cap - lo)) ((l.take hi).drop lo) := by
  have e : ((l.take hi).drop lo).length = hi - lo := by simp; omega
  refine ⟨_, _, by rw [e], by rw [e]; omega, ?_⟩
  have := h.cut (lo := lo) (hi := hi) (cap := cap) (by omega)
  rw [List.map_drop, List.map_take]
  exact this

/-- What a reader of varints gives: value, end, error. 'i' bytes were read before. -/
def uvD (pos : Nat) : Nat → Nat → List (BitVec 8) → Nat × Nat × Nat
  | _, _, [] => (0, 0, 12)
  | i, v, c :: r => if i = 9 ∧ 1 < c.toNat ∨ 0 < i ∧ c.toNat = 0 then (0, 0, 13) else if c.toNat < 128 then (v + 2 ^ (7 * i) * c.toNat, pos + i + 1, 0) else uvD pos (i+1) (v + 2 ^ (7 * i) * (c.toNat % 128)) r

def uvRes (l : List (BitVec 8)) (a : Int) : Nat × Nat × Nat := if a < 0 ∨ l.length < a then (0, 0, 1) else uvD a.toNat 0 0 (l.drop a.toNat)

def uvVal (q : Nat × Nat × Nat) : Value := .tuple #[.int .u64 (q.1 : Int), .int .i64 (q.2.1 : Int), .int .i64 (q.2.2 : Int)]

theorem c_Uvarint (v : Value) (l : List (BitVec 8)) (a : Int) (w : World) (hl : l.length ≤ 9223372036854775807) (hv : By w v l) (ha : -9223372036854775808 ≤ a ∧ a ≤ 9223372036854775807) :
    Calls Try.prog 29 [v, .int .i64 a].toArray w (Ret fun r w' => r = uvVal (uvRes l a) ∧ w' = w) := by
  obtain ⟨sa, cap, rfl, hcap, hr⟩ := hv
  refine calls_go Try.func29 rfl Try.ntmps29 (Nat.le_of_ble_eq_true rfl) ?_
  by_cases h0 : a < 0
  · repeat (first | refine sp ?_ | (refine is_load ?_; refine ld ?_) | (refine is_store ?_; refine sr ?_) | (refine is_alloc ?_; refine al ?_) | (refine is_box ?_; refine bx ?_))
    refine go_ret3 rfl rfl rfl rfl ⟨_, rfl, ?_, rfl⟩
    rw [uvRes, if_pos (.inl h0)]; rfl
  by_cases h1 : (l.length : Int) < a
  · repeat (first | refine sp ?_ | (refine is_load ?_; refine ld ?_) | (refine is_store ?_; refine sr ?_) | (refine is_alloc ?_; refine al ?_) | (refine is_box ?_; refine bx ?_))
    refine go_ret3 rfl rfl rfl rfl ⟨_, rfl, ?_, rfl⟩
    rw [uvRes, if_pos (.inr h1)]; rfl
  obtain ⟨p, rfl⟩ : ∃ p : Nat, a = p := ⟨a.toNat, by omega⟩
  have hp : p ≤ l.length := by omega
  have hres : uvRes l (p : Int) = uvD p 0 0 (l.drop p) := by rw [uvRes, if_neg (by omega), Int.toNat_natCast]
  rw [hres]
  repeat (first | refine sp ?_ | (refine is_load ?_; refine ld ?_) | (refine is_store ?_; refine sr ?_) | (refine is_alloc ?_; refine al ?_) | (refine is_box ?_; refine bx ?_))
  refine go_p rfl (pr_sl (lo := p) (hi := l.length) (by decide) rfl ⟨_, _, rfl, rfl⟩ rfl hp hcap) ?_
  have hrc := hr.cut (lo := p) (hi := l.length) (cap := cap) hcap
  have etake : (l.map u8).take l.length = l.map u8 := by rw [List.take_of_length_le (by simp)]
  rw [etake] at hrc
  generalize cutA sa 1 cap p = sb at *
  repeat (first | refine sp ?_ | (refine is_load ?_; refine ld ?_) | (refine is_store ?_; refine sr ?_) | (refine is_alloc ?_; refine al ?_) | (refine is_box ?_; refine bx ?_))
  refine go_loop (G := Nat × Nat) [22, 7] (fun ⟨i, u⟩ => [.int .i64 (i : Int), .int .u64 (u : Int)]) [(1, .int .i64 p), (20, .slice sb (l.length - p) (cap - p)), (21, .int .i64 ((l.length - p : Nat) : Int))]
    (fun g w' => g.1 ≤ 9 ∧ g.1 ≤ l.length - p ∧ g.2 < 2 ^ (7 * g.1) ∧ uvD p 0 0 (l.drop p) = uvD p g.1 g.2 (l.drop (p + g.1)) ∧ w' = w) (fun g => l.length - g.1) (0, 0) rfl ⟨rfl, rfl, rfl, trivial⟩ ⟨by omega, by omega, by decide, rfl, rfl⟩ ?_
  rintro ⟨i, u⟩ w2 ⟨hi9, hil, hu, hd, rfl⟩
  simp only at hi9 hil hu hd
  rw [hd]
  by_cases hlt : i < l.length - p
  · have hcell : ((l.map u8).drop p)[i]? = some (u8 (l[p + i]'(by omega))) := by simp [show p + i < l.length by omega]
    obtain ⟨b, o, rfl, hc⟩ := hrc _ _ hcell
    have hdrop : l.drop (p + i) = l[p + i] :: l.drop (p + (i + 1)) := by
      rw [← Nat.add_assoc]; exact List.drop_eq_getElem_cons (by omega)
    have hd2 := hd
    rw [hdrop] at hd2 ⊢
    rw [uvD] at hd2 ⊢
    generalize l[p + i] = c at *
    have hcl := c.isLt
    have hub : u < 18446744073709551616 := by
      have : 2 ^ (7 * i) ≤ 2 ^ 63 := Nat.pow_le_pow_right (by decide) (by omega)
      omega
    have hxb : i ≠ 9 ∨ c.toNat ≤ 1 → 2 ^ (7 * i) * (c.toNat % 128) < 18446744073709551616 := by
      rintro (h | h)
      · have h3 : 2 ^ (7 * i) ≤ 2 ^ 56 := Nat.pow_le_pow_right (by decide) (by omega)
        have h4 : 2 ^ (7 * i) * (c.toNat % 128) ≤ 2 ^ 56 * 127 := Nat.mul_le_mul h3 (by omega)
        omega
      · have h3 : 2 ^ (7 * i) ≤ 2 ^ 63 := Nat.pow_le_pow_right (by decide) (by omega)
        have h4 : 2 ^ (7 * i) * (c.toNat % 128) ≤ 2 ^ 63 * 1 := Nat.mul_le_mul h3 (by omega)
        omega
    by_cases hbad : i = 9 ∧ 1 < c.toNat ∨ 0 < i ∧ c.toNat = 0
    · rw [if_pos hbad]
      rcases hbad with ⟨h9, h1c⟩ | ⟨hi0, hc0⟩
      · repeat (first | refine sp ?_ | (refine is_load ?_; refine ld ?_) | (refine is_store ?_; refine sr ?_) | (refine is_alloc ?_; refine al ?_) | (refine is_box ?_; refine bx ?_))
        exact go_ret3 rfl rfl rfl rfl ⟨_, rfl, rfl, rfl⟩
      · by_cases h9 : i = 9
        · repeat (first | refine sp ?_ | (refine is_load ?_; refine ld ?_) | (refine is_store ?_; refine sr ?_) | (refine is_alloc ?_; refine al ?_) | (refine is_box ?_; refine bx ?_))
          exact go_ret3 rfl rfl rfl rfl ⟨_, rfl, rfl, rfl⟩
        · repeat (first | refine sp ?_ | (refine is_load ?_; refine ld ?_) | (refine is_store ?_; refine sr ?_) | (refine is_alloc ?_; refine al ?_) | (refine is_box ?_; refine bx ?_))
          exact go_ret3 rfl rfl rfl rfl ⟨_, rfl, rfl, rfl⟩
    · rw [if_neg hbad] at hd2 ⊢
      have hg1 : i ≠ 9 ∨ c.toNat ≤ 1 := by omega
      have hx := hxb hg1
      have hg2 : i = 0 ∨ c.toNat ≠ 0 := by omega
      have hor : u ||| 2 ^ (7 * i) * (c.toNat % 128) = u + 2 ^ (7 * i) * (c.toNat % 128) := by
        rw [Nat.or_comm, ← Nat.two_pow_add_eq_or_of_lt hu, Nat.add_comm]
      have hwrap : IntKind.u64.wrap (((c.toNat % 128 : Nat) : Int) * 2 ^ (7 * i)) = ((2 ^ (7 * i) * (c.toNat % 128) : Nat) : Int) := by
        rw [← wrap_nat (k := .u64) rfl hx]
        congr 1
        push_cast
        exact Int.mul_comm _ _
      by_cases h128 : c.toNat < 128
      · rw [if_pos h128] at hd2 ⊢
        have hm : c.toNat % 128 = c.toNat := Nat.mod_eq_of_lt h128
        by_cases h9 : i = 9
        · repeat (first | refine sp ?_ | (refine is_load ?_; refine ld ?_) | (refine is_store ?_; refine sr ?_) | (refine is_alloc ?_; refine al ?_) | (refine is_box ?_; refine bx ?_))
          refine go_p rfl (pr_and127 rfl rfl rfl) ?_
          repeat (first | refine sp ?_ | (refine is_load ?_; refine ld ?_) | (refine is_store ?_; refine sr ?_) | (refine is_alloc ?_; refine al ?_) | (refine is_box ?_; refine bx ?_))
          refine go_p rfl (pr_shl (m := 7 * i) rfl rfl (by omega) (by show 7 * i ≤ 64; omega)) ?_
          rw [hwrap]
          refine go_p rfl (pr_or64N rfl rfl hub hx) ?_
          rw [hor]
          repeat (first | refine sp ?_ | (refine is_load ?_; refine ld ?_) | (refine is_store ?_; refine sr ?_) | (refine is_alloc ?_; refine al ?_) | (refine is_box ?_; refine bx ?_))
          refine go_ret3 rfl rfl rfl rfl ⟨_, rfl, ?_, rfl⟩
          rw [hm]; unfold uvVal; simp
        by_cases hi0 : i = 0
        · repeat (first | refine sp ?_ | (refine is_load ?_; refine ld ?_) | (refine is_store ?_; refine sr ?_) | (refine is_alloc ?_; refine al ?_) | (refine is_box ?_; refine bx ?_))
          refine go_p rfl (pr_and127 rfl rfl rfl) ?_
          repeat (first | refine sp ?_ | (refine is_load ?_; refine ld ?_) | (refine is_store ?_; refine sr ?_) | (refine is_alloc ?_; refine al ?_) | (refine is_box ?_; refine bx ?_))
          refine go_p rfl (pr_shl (m := 7 * i) rfl rfl (by omega) (by show 7 * i ≤ 64; omega)) ?_
          rw [hwrap]
          refine go_p rfl (pr_or64N rfl rfl hub hx) ?_
          rw [hor]
          repeat (first | refine sp ?_ | (refine is_load ?_; refine ld ?_) | (refine is_store ?_; refine sr ?_) | (refine is_alloc ?_; refine al ?_) | (refine is_box ?_; refine bx ?_))
          refine go_ret3 rfl rfl rfl rfl ⟨_, rfl, ?_, rfl⟩
          rw [hm]; unfold uvVal; simp
        · repeat (first | refine sp ?_ | (refine is_load ?_; refine ld ?_) | (refine is_store ?_; refine sr ?_) | (refine is_alloc ?_; refine al ?_) | (refine is_box ?_; refine bx ?_))
          refine go_p rfl (pr_and127 rfl rfl rfl) ?_
          repeat (first | refine sp ?_ | (refine is_load ?_; refine ld ?_) | (refine is_store ?_; refine sr ?_) | (refine is_alloc ?_; refine al ?_) | (refine is_box ?_; refine bx ?_))
          refine go_p rfl (pr_shl (m := 7 * i) rfl rfl (by omega) (by show 7 * i ≤ 64; omega)) ?_
          rw [hwrap]
          refine go_p rfl (pr_or64N rfl rfl hub hx) ?_
          rw [hor]
          repeat (first | refine sp ?_ | (refine is_load ?_; refine ld ?_) | (refine is_store ?_; refine sr ?_) | (refine is_alloc ?_; refine al ?_) | (refine is_box ?_; refine bx ?_))
          refine go_ret3 rfl rfl rfl rfl ⟨_, rfl, ?_, rfl⟩
          rw [hm]; unfold uvVal; simp
      · rw [if_neg h128] at hd2 ⊢
        have hi8 : i < 9 := by omega
        have hnext : ∀ w', w' = w2 → (i + 1 ≤ 9 ∧ i + 1 ≤ l.length - p ∧ u + 2 ^ (7 * i) * (c.toNat % 128) < 2 ^ (7 * (i + 1)) ∧ uvD p (i + 1) (u + 2 ^ (7 * i) * (c.toNat % 128)) (l.drop (p + (i + 1))) = uvD p (i + 1) (u + 2 ^ (7 * i) * (c.toNat % 128)) (l.drop (p + (i + 1))) ∧ w' = w2) := by
          rintro w' rfl
          refine ⟨by omega, by omega, ?_, rfl, rfl⟩
          have h3 : 2 ^ (7 * i) * (c.toNat % 128) ≤ 2 ^ (7 * i) * 127 := Nat.mul_le_mul (Nat.le_refl _) (by omega)
          have h4 : 2 ^ (7 * (i + 1)) = 2 ^ (7 * i) * 128 := by rw [show 7 * (i + 1) = 7 * i + 7 by omega, Nat.pow_add]
          omega
        by_cases hi0 : i = 0
        · repeat (first | refine sp ?_ | (refine is_load ?_; refine ld ?_) | (refine is_store ?_; refine sr ?_) | (refine is_alloc ?_; refine al ?_) | (refine is_box ?_; refine bx ?_))
          refine go_p rfl (pr_and127 rfl rfl rfl) ?_
          repeat (first | refine sp ?_ | (refine is_load ?_; refine ld ?_) | (refine is_store ?_; refine sr ?_) | (refine is_alloc ?_; refine al ?_) | (refine is_box ?_; refine bx ?_))
          refine go_p rfl (pr_shl (m := 7 * i) rfl rfl (by omega) (by show 7 * i ≤ 64; omega)) ?_
          rw [hwrap]
          refine go_p rfl (pr_or64N rfl rfl hub hx) ?_
          rw [hor]
          repeat (first | refine sp ?_ | (refine is_load ?_; refine ld ?_) | (refine is_store ?_; refine sr ?_) | (refine is_alloc ?_; refine al ?_) | (refine is_box ?_; refine bx ?_))
          exact go_stop (i + 1, u + 2 ^ (7 * i) * (c.toNat % 128)) rfl ⟨rfl, rfl, rfl, trivial⟩ (hnext _ rfl) (by show l.length - (i+1) < l.length - i; omega)
        · repeat (first | refine sp ?_ | (refine is_load ?_; refine ld ?_) | (refine is_store ?_; refine sr ?_) | (refine is_alloc ?_; refine al ?_) | (refine is_box ?_; refine bx ?_))
          refine go_p rfl (pr_and127 rfl rfl rfl) ?_
          repeat (first | refine sp ?_ | (refine is_load ?_; refine ld ?_) | (refine is_store ?_; refine sr ?_) | (refine is_alloc ?_; refine al ?_) | (refine is_box ?_; refine bx ?_))
          refine go_p rfl (pr_shl (m := 7 * i) rfl rfl (by omega) (by show 7 * i ≤ 64; omega)) ?_
          rw [hwrap]
          refine go_p rfl (pr_or64N rfl rfl hub hx) ?_
          rw [hor]
          repeat (first | refine sp ?_ | (refine is_load ?_; refine ld ?_) | (refine is_store ?_; refine sr ?_) | (refine is_alloc ?_; refine al ?_) | (refine is_box ?_; refine bx ?_))
          exact go_stop (i + 1, u + 2 ^ (7 * i) * (c.toNat % 128)) rfl ⟨rfl, rfl, rfl, trivial⟩ (hnext _ rfl) (by show l.length - (i+1) < l.length - i; omega)
  · obtain rfl : i = l.length - p := by omega
    have e : l.drop (p + (l.length - p)) = [] := List.drop_eq_nil_of_le (by omega)
    rw [e, uvD]
    repeat (first | refine sp ?_ | (refine is_load ?_; refine ld ?_) | (refine is_store ?_; refine sr ?_) | (refine is_alloc ?_; refine al ?_) | (refine is_box ?_; refine bx ?_))
    exact go_ret3 rfl rfl rfl rfl ⟨_, rfl, rfl, rfl⟩

end Go.Proofs.Ytfgkleggbcpinaa
