/-
  Varints and frames: what the program appends.
-/
import Derived.Test.YtfgkleggbcpinaaF3
import Derived.Test.YtfgkleggbcpinaaF5
set_option linter.unusedVariables false
namespace Go.Vc

section
variable {P : Program} {st : St} {x y : Operand} {t ty : TypeId}

theorem pr_shrN {a m : Nat} {k k' : IntKind} {c : Int} (hx : evS st x = some (.int k (a : Int))) (hy : evS st y = some (.int k' c)) (hc : c = (m : Int)) (hm : m ≤ k.bits) : PureRun P st (.binOp .shr t x y ty) (.int k ((a / 2 ^ m : Nat) : Int)) := by
  have h := pr_shr (P := P) (tx := t) (ty := ty) hx hy hc hm
  have e : ((a : Int).fdiv (2 ^ m)) = ((a / 2 ^ m : Nat) : Int) := by
    rw [Int.fdiv_eq_ediv_of_nonneg _ (by exact_mod_cast Nat.zero_le _)]
    push_cast; rfl
  rwa [e] at h

theorem wrap8n (n : Nat) : IntKind.u8.wrap (n : Int) = ((BitVec.ofNat 8 n).toNat : Int) := by
  rw [BitVec.toNat_ofNat]
  simp [IntKind.wrap, IntKind.bits, IntKind.signed]

theorem pr_conv8N {t1 t2 : TypeId} {d1 : TypeDesc} [UTy P t1 d1] [UTy P t2 (.int .u8)] {a : Nat} {k : IntKind} (hx : evS st x = some (.int k (a : Int))) : PureRun P st (.convert t1 t2 x) (u8 (BitVec.ofNat 8 a)) := by
  have h := pr_conv (P := P) (t1 := t1) (t2 := t2) (k2 := .u8) hx
  rwa [wrap8n] at h

theorem pr_or8c {a : BitVec 8} {c : Int} (b : BitVec 8) (hx : evS st x = some (u8 a)) (hy : evS st y = some (.int .u8 c)) (hc : c = (b.toNat : Int)) : PureRun P st (.binOp .or t x y ty) (u8 (a ||| b)) := by
  subst hc
  have := pr_basic (P := P) (st := st) (op := .binOp .or t x y ty) (v := u8 (a ||| b)) (by
    simp only [pureOp, hx, hy, sameKind, binI]
    show some (Value.int _ (IntKind.u8.wrap ((BitVec.ofInt 8 _ ||| BitVec.ofInt 8 _).toNat : Int))) = _
    rw [ofInt_toNat, ofInt_toNat, wrap8])
  exact this
end

theorem freeze_ext {w0 w : World} (h0 : Ext w0 w) {b o m : Nat} (hb : w0.heap.size ≤ b) : Ext w0 (w.freeze ⟨b, o, none⟩ m) := by
  unfold World.freeze
  split
  · exact h0
  · refine ⟨h0.os, h0.tape, h0.output, by have := h0.size; simpa using this, fun x hx _ => ?_⟩
    simp only [Array.getElem?_modify]
    rw [if_neg (by omega)]
    exact h0.block x hx id

theorem freeze_cell {w : World} {b o m : Nat} {p : Addr} : (w.freeze ⟨b, o, none⟩ m).cell? p = w.cell? p := by
  unfold World.freeze
  split
  · rfl
  · simp only [World.cell?, Array.getElem?_modify]
    by_cases h : b = p.block
    · subst h
      simp only [if_true]
      cases w.heap[p.block]? with
      | none => rfl
      | some ob => cases ob <;> rfl
    · rw [if_neg h]

/-- '[]byte("..")': the literal's array is marked, nothing else. -/
theorem go_strBytes {P : Program} {n : Nat} {Q : Exit → Act → World → Prop} {k : List It} {st : St} {w : World} {all : Array Oper} {rest : List Oper} {d : Nat} {t to e : TypeId} {p : String} {af : Array Edge} {x : Operand} {a : Addr} {len cap : Nat} {C : List Value} {T : TypeId}
    [he : UTy P t (.slice e)] [hb : UTy P e (.int .u8)] (hd : Nat.blt d n = true) (hx : evS st x = some (.slice (some a) len cap)) (ha : At w a.block C T)
    (h : Go P n Q (.ops all rest :: k) ((d, .slice (some a) len cap) :: st) (w.freeze ⟨a.block, C.length, none⟩ 1)) :
    Go P n Q (.ops all (⟨some d, .convert t t x, to, p, af, none⟩ :: rest) :: k) st w := by
  refine go_val hd (fun ac hac => ?_) h
  have h0 := ha.h
  have hs : w.shape? a.block = some (T, C.length) := by simp [World.shape?, h0]
  simp only [execOp, hac.ev hx, convert, underlying, Sem.run_bind]
  simp [he.u, hb.u, markStringish, shape, freeze, Sem.run, hs]

end Go.Vc
namespace Go.Proofs.Ytfgkleggbcpinaa
open Go.Vc

theorem OwnB.mono {w : World} {lo lo' : Nat} {v : Value} {l : List (BitVec 8)} (h : OwnB w lo v l) (hl : lo' ≤ lo) : OwnB w lo' v l := by
  refine ⟨h.1, ?_⟩
  rcases h.2 with h2 | ⟨g, cap, cur, hv, hg, r⟩
  · exact Or.inl h2
  · exact Or.inr ⟨g, cap, cur, hv, by omega, r⟩

def uvar : Nat → Nat → List (BitVec 8)
  | 0, n => [BitVec.ofNat 8 n]
  | f+1, n => if n < 128 then [BitVec.ofNat 8 n] else BitVec.ofNat 8 (n % 128 + 128) :: uvar f (n / 128)
def varint (n : Nat) : List (BitVec 8) := uvar 9 n

theorem uvar_len : ∀ f n, (uvar f n).length ≤ f + 1
  | 0, _ => by simp [uvar]
  | f+1, n => by
    unfold uvar
    split
    · simp
    · have := uvar_len f (n / 128); simp; omega
theorem varint_len (n : Nat) : (varint n).length ≤ 10 := uvar_len 9 n

theorem or128 (n : Nat) : BitVec.ofNat 8 n ||| 128#8 = BitVec.ofNat 8 (n % 128 + 128) := by
  have h : ∀ b : BitVec 8, b ||| 128#8 = BitVec.ofNat 8 (b.toNat % 128 + 128) := by decide
  rw [h]
  congr 1
  simp

theorem c_AppendUvarint (v : Value) (l : List (BitVec 8)) (n : Nat) (w : World) (hn : n < 18446744073709551616) (hl : l.length ≤ 70368744177664) (hv : By w v l) :
    Calls Try.prog 26 [v, .int .u64 (n : Int)].toArray w (Ret fun r w' => OwnB w' w.heap.size r (l ++ varint n) ∧ Ext w w') := by
  obtain ⟨sa, cap, rfl, hcap, hr⟩ := hv
  refine calls_go Try.func26 rfl Try.ntmps26 (Nat.le_of_ble_eq_true rfl) ?_
  repeat (first | refine sp ?_ | (refine is_load ?_; refine ld ?_) | (refine is_store ?_; refine sr ?_) | (refine is_alloc ?_; refine al ?_) | (refine is_box ?_; refine bx ?_))
  refine go_make0 (c := l.length + 10) rfl rfl rfl rfl (by omega) (by omega) (by unfold maxLen; omega) ?_
  intro v0 w1 ho hx
  repeat (first | refine sp ?_ | (refine is_load ?_; refine ld ?_) | (refine is_store ?_; refine sr ?_) | (refine is_alloc ?_; refine al ?_) | (refine is_box ?_; refine bx ?_))
  refine go_appB (l := []) rfl rfl rfl hx ho ⟨sa, cap, rfl, hcap, hr.ext hx⟩ (by simp; omega) ?_
  intro v1 w2 ho1 hx1
  rw [List.nil_append] at ho1
  repeat (first | refine sp ?_ | (refine is_load ?_; refine ld ?_) | (refine is_store ?_; refine sr ?_) | (refine is_alloc ?_; refine al ?_) | (refine is_box ?_; refine bx ?_))
  refine go_loop (G := Nat × Nat × List (BitVec 8) × Value) [1, 5] (fun ⟨_, m, _, v⟩ => [.int .u64 (m : Int), v]) []
    (fun g w' => g.1 ≤ 9 ∧ g.2.1 < 2 ^ (7 * g.1 + 1) ∧ l ++ varint n = g.2.2.1 ++ uvar g.1 g.2.1 ∧ g.2.2.1.length + g.1 ≤ l.length + 9 ∧ OwnB w' w.heap.size g.2.2.2 g.2.2.1 ∧ Ext w w') (fun g => g.1)
    (9, n, l, v1) rfl trivial ⟨by simp, by simpa using hn, rfl, by simp, ho1, hx1⟩ ?_
  rintro ⟨f, m, done, v2⟩ w3 ⟨hf, hm, hdone, hlen, ho2, hx2⟩
  simp only at hf hm hdone hlen ho2
  have hm64 : m < 18446744073709551616 := by
    have : 2 ^ (7 * f + 1) ≤ 2 ^ 64 := Nat.pow_le_pow_right (by decide) (by omega)
    omega
  by_cases hlt : 128 ≤ m
  · obtain ⟨f', rfl⟩ : ∃ f', f = f' + 1 := by
      cases f with
      | zero => simp at hm; omega
      | succ f' => exact ⟨f', rfl⟩
    repeat (first | refine sp ?_ | (refine is_load ?_; refine ld ?_) | (refine is_store ?_; refine sr ?_) | (refine is_alloc ?_; refine al ?_) | (refine is_box ?_; refine bx ?_))
    rw [wrap8n]
    refine go_p rfl (pr_or8c 128#8 rfl rfl rfl) ?_
    rw [or128]
    repeat (first | refine sp ?_ | (refine is_load ?_; refine ld ?_) | (refine is_store ?_; refine sr ?_) | (refine is_alloc ?_; refine al ?_) | (refine is_box ?_; refine bx ?_))
    refine go_lit rfl rfl rfl (by decide) (by decide) rfl ?_
    refine go_pushB rfl rfl rfl rfl rfl hx2 ho2 (by omega) ?_
    intro v3 w4 ho3 hx3
    repeat (first | refine sp ?_ | (refine is_load ?_; refine ld ?_) | (refine is_store ?_; refine sr ?_) | (refine is_alloc ?_; refine al ?_) | (refine is_box ?_; refine bx ?_))
    refine go_p rfl (pr_shrN (m := 7) rfl rfl rfl (by decide)) ?_
    repeat (first | refine sp ?_ | (refine is_load ?_; refine ld ?_) | (refine is_store ?_; refine sr ?_) | (refine is_alloc ?_; refine al ?_) | (refine is_box ?_; refine bx ?_))
    refine go_stop (G := Nat × Nat × List (BitVec 8) × Value) (f', m / 2 ^ 7, done ++ [BitVec.ofNat 8 (m % 128 + 128)], v3) rfl trivial ⟨by show f' ≤ 9; omega, ?_, ?_, ?_, ho3, hx3⟩ (by show f' < f' + 1; omega)
    · show m / 2 ^ 7 < 2 ^ (7 * f' + 1)
      rw [Nat.div_lt_iff_lt_mul (by decide), ← Nat.pow_add]
      rw [show 7 * f' + 1 + 7 = 7 * (f' + 1) + 1 by omega]; exact hm
    · show l ++ varint n = _
      rw [hdone, uvar, if_neg (by omega)]; simp
    · simp; omega
  · have hu : uvar f m = [BitVec.ofNat 8 m] := by
      cases f with
      | zero => rfl
      | succ f' => rw [uvar, if_pos (by omega)]
    rw [hu] at hdone
    repeat (first | refine sp ?_ | (refine is_load ?_; refine ld ?_) | (refine is_store ?_; refine sr ?_) | (refine is_alloc ?_; refine al ?_) | (refine is_box ?_; refine bx ?_))
    refine go_as 24 (u' := u8 (BitVec.ofNat 8 m)) rfl (by congr 1; simp; omega) ?_
    refine go_lit rfl rfl rfl (by decide) (by decide) rfl ?_
    refine go_pushB rfl rfl rfl rfl rfl hx2 ho2 (by omega) ?_
    intro v3 w4 ho3 hx3
    repeat (first | refine sp ?_ | (refine is_load ?_; refine ld ?_) | (refine is_store ?_; refine sr ?_) | (refine is_alloc ?_; refine al ?_) | (refine is_box ?_; refine bx ?_))
    refine go_ret1 rfl rfl ⟨_, rfl, ?_, hx3⟩
    rw [hdone]; exact ho3

def word4 (c : BitVec 32) : List (BitVec 8) := [(c >>> 24).setWidth 8, (c >>> 16).setWidth 8, (c >>> 8).setWidth 8, c.setWidth 8]
def head (l : List (BitVec 8)) : List (BitVec 8) := varint l.length ++ l
def frame (l : List (BitVec 8)) : List (BitVec 8) := head l ++ word4 (extP 0#32 (head l))

theorem c_AppendBig (v u : Value) (l m : List (BitVec 8)) (w : World) (hm : 1048576 < m.length) (hm2 : m.length ≤ 70368744177664) (hu : By w u m) :
    Calls Try.prog 19 [v, u].toArray w (Ret fun r w' => r = .tuple #[.slice none 0 0, .int .i64 1] ∧ w' = w) := by
  obtain ⟨sa, cap, rfl, hcap, hr⟩ := hu
  refine calls_go Try.func19 rfl Try.ntmps19 (Nat.le_of_ble_eq_true rfl) ?_
  repeat (first | refine sp ?_ | (refine is_load ?_; refine ld ?_) | (refine is_store ?_; refine sr ?_) | (refine is_alloc ?_; refine al ?_) | (refine is_box ?_; refine bx ?_))
  exact go_ret2 rfl rfl rfl ⟨_, rfl, rfl, rfl⟩

set_option maxHeartbeats 1000000 in
theorem c_Append (v u : Value) (l m : List (BitVec 8)) (w : World) (hl : l.length ≤ 35184372088832) (hm : m.length ≤ 1048576) (hv : By w v l) (hu : By w u m) :
    Calls Try.prog 19 [v, u].toArray w (Ret fun r w' => ∃ x, r = .tuple #[x, .int .i64 0] ∧ OwnB w' w.heap.size x (l ++ frame m) ∧ Ext w w') := by
  obtain ⟨sa, cap, rfl, hcap, hr⟩ := hv
  obtain ⟨sb, cbp, rfl, hcbp, hs⟩ := hu
  have hvl := varint_len m.length
  refine calls_go Try.func19 rfl Try.ntmps19 (Nat.le_of_ble_eq_true rfl) ?_
  repeat (first | refine sp ?_ | (refine is_load ?_; refine ld ?_) | (refine is_store ?_; refine sr ?_) | (refine is_alloc ?_; refine al ?_) | (refine is_box ?_; refine bx ?_))
  refine go_call rfl rfl (c_AppendUvarint (.slice none 0 0) [] m.length w (by omega) (by simp) (By.nil w)) ?_
  rintro r w1 ⟨ho, hx⟩
  rw [List.nil_append] at ho
  repeat (first | refine sp ?_ | (refine is_load ?_; refine ld ?_) | (refine is_store ?_; refine sr ?_) | (refine is_alloc ?_; refine al ?_) | (refine is_box ?_; refine bx ?_))
  refine go_appB rfl rfl rfl hx ho ⟨sb, cbp, rfl, hcbp, hs.ext hx⟩ (by omega) ?_
  intro v1 w2 ho1 hx1
  have hhl : (head m).length = (varint m.length).length + m.length := by simp [head]
  rw [show varint m.length ++ m = head m from rfl] at ho1
  repeat (first | refine sp ?_ | (refine is_load ?_; refine ld ?_) | (refine is_store ?_; refine sr ?_) | (refine is_alloc ?_; refine al ?_) | (refine is_box ?_; refine bx ?_))
  refine go_call rfl rfl (c_Checksum v1 (head m) w2 (by omega) ho1.by) ?_
  rintro r w3 ⟨rfl, hx3⟩
  generalize hc : extP 0#32 (head m) = c
  repeat (first | refine sp ?_ | (refine is_load ?_; refine ld ?_) | (refine is_store ?_; refine sr ?_) | (refine is_alloc ?_; refine al ?_) | (refine is_box ?_; refine bx ?_))
  refine go_p rfl (pr_shr32 (m := 24) rfl rfl rfl (by decide)) ?_
  refine go_p rfl (pr_conv32_8 rfl) ?_
  repeat (first | refine sp ?_ | (refine is_load ?_; refine ld ?_) | (refine is_store ?_; refine sr ?_) | (refine is_alloc ?_; refine al ?_) | (refine is_box ?_; refine bx ?_))
  refine go_p rfl (pr_shr32 (m := 16) rfl rfl rfl (by decide)) ?_
  refine go_p rfl (pr_conv32_8 rfl) ?_
  repeat (first | refine sp ?_ | (refine is_load ?_; refine ld ?_) | (refine is_store ?_; refine sr ?_) | (refine is_alloc ?_; refine al ?_) | (refine is_box ?_; refine bx ?_))
  refine go_p rfl (pr_shr32 (m := 8) rfl rfl rfl (by decide)) ?_
  refine go_p rfl (pr_conv32_8 rfl) ?_
  refine go_p rfl (pr_basic0 rfl) ?_
  refine go_p rfl (pr_conv32_8 rfl) ?_
  refine go_lit rfl rfl rfl (by decide) (by decide) rfl ?_
  have hx3' : Ext w (w3.alloc (.cells [u8 ((c >>> 24).setWidth 8), u8 ((c >>> 16).setWidth 8), u8 ((c >>> 8).setWidth 8), u8 (c.setWidth 8)].toArray 5)) := (hx1.trans hx3).alloc _
  refine go_appB (m := word4 c) rfl rfl rfl hx3' ((ho1.ext hx3).ext ((Fr.refl _ _).alloc _)) ⟨_, 4, rfl, Nat.le_refl _, ?_⟩ (by simp [word4]; omega) ?_
  · intro j q hj
    refine ⟨_, _, rfl, ?_⟩
    have := (At.new w3 [u8 ((c >>> 24).setWidth 8), u8 ((c >>> 16).setWidth 8), u8 ((c >>> 8).setWidth 8), u8 (c.setWidth 8)] 5).cell (i := j) (v := q) hj
    simpa using this
  intro v2 w4 ho2 hx4
  have hfl : (head m ++ word4 c).length ≤ 1048600 := by simp [hhl, word4]; omega
  obtain ⟨sc, cc, rfl, hcc, hrc⟩ := ho2.by
  repeat (first | refine sp ?_ | (refine is_load ?_; refine ld ?_) | (refine is_store ?_; refine sr ?_) | (refine is_alloc ?_; refine al ?_) | (refine is_box ?_; refine bx ?_))
  refine go_make0 (c := l.length + (head m ++ word4 c).length) rfl rfl rfl rfl (by omega) (by omega) (by unfold maxLen; omega) ?_
  intro v5 w5 ho5 hx5
  have hx45 := hx4.trans hx5
  repeat (first | refine sp ?_ | (refine is_load ?_; refine ld ?_) | (refine is_store ?_; refine sr ?_) | (refine is_alloc ?_; refine al ?_) | (refine is_box ?_; refine bx ?_))
  refine go_appB (w0 := w4) (l := []) rfl rfl rfl hx5 ho5 ⟨sa, cap, rfl, hcap, (hr.ext hx45)⟩ (by simp; omega) ?_
  intro v6 w6 ho6 hx6
  rw [List.nil_append] at ho6
  repeat (first | refine sp ?_ | (refine is_load ?_; refine ld ?_) | (refine is_store ?_; refine sr ?_) | (refine is_alloc ?_; refine al ?_) | (refine is_box ?_; refine bx ?_))
  refine go_appB (w0 := w4) rfl rfl rfl hx6 ho6 ⟨sc, cc, rfl, hcc, hrc.ext hx6⟩ (by omega) ?_
  intro v7 w7 ho7 hx7
  repeat (first | refine sp ?_ | (refine is_load ?_; refine ld ?_) | (refine is_store ?_; refine sr ?_) | (refine is_alloc ?_; refine al ?_) | (refine is_box ?_; refine bx ?_))
  refine go_ret2 rfl rfl rfl ⟨_, rfl, _, rfl, ?_, hx4.trans hx7⟩
  rw [frame, hc]
  exact OwnB.mono ho7 hx4.size

theorem c_awake (w : World) : Calls Try.prog 12 [].toArray w (Ret fun v w' => v = .bool true ∧ Ext w w') := by
  have e1 : frame [97#8] = [1#8, 97#8] ++ word4 (extP 0#32 [1#8, 97#8]) := rfl
  have e2 : extP 0#32 [49#8, 50#8, 51#8, 52#8, 53#8, 54#8, 55#8, 56#8, 57#8] = 3808858755#32 := by decide +kernel
  refine calls_go Try.func12 rfl Try.ntmps12 (Nat.le_of_ble_eq_true rfl) ?_
  repeat (first | refine sp ?_ | (refine is_load ?_; refine ld ?_) | (refine is_store ?_; refine sr ?_) | (refine is_alloc ?_; refine al ?_) | (refine is_box ?_; refine bx ?_))
  refine go_lit rfl rfl rfl (by decide) (by decide) rfl ?_
  refine go_strBytes (a := ⟨w.heap.size, 0, none⟩) rfl rfl (At.new w _ _) ?_
  have hx1 : Ext w ((w.alloc (.cells [Value.int .u8 97].toArray 5)).freeze ⟨w.heap.size, 1, none⟩ 1) := freeze_ext ((Fr.refl _ _).alloc _) (Nat.le_refl _)
  generalize hw1 : (w.alloc (.cells [Value.int .u8 97].toArray 5)).freeze ⟨w.heap.size, 1, none⟩ 1 = w1 at *
  have hb : By w1 (.slice (some ⟨w.heap.size, 0, none⟩) 1 1) [97#8] := by
    refine ⟨_, _, rfl, Nat.le_refl _, fun j u hj => ⟨_, _, rfl, ?_⟩⟩
    rw [← hw1, freeze_cell]
    have := (At.new w [Value.int .u8 97] 5).cell (i := j) (v := u) hj
    simpa using this
  refine go_call rfl rfl (c_Append (.slice none 0 0) _ [] [97#8] w1 (by simp) (by simp) (By.nil _) hb) ?_
  rintro r w2 ⟨x, rfl, ho, hx⟩
  rw [List.nil_append, e1] at ho
  obtain ⟨sa, cap, rfl, hcap, hr⟩ := ho.by
  obtain ⟨b, o, rfl, hc0⟩ := hr.get (j := 0) (by simp [word4])
  obtain ⟨b', o', e', hc1⟩ := hr.get (j := 1) (by simp [word4])
  simp only [Option.some.injEq, Addr.mk.injEq] at e'
  obtain ⟨rfl, rfl, _⟩ := e'
  have hlen : ([1#8, 97#8] ++ word4 (extP 0#32 [1#8, 97#8])).length = 6 := by simp [word4]
  rw [hlen]
  have hc0' : w2.cell? ⟨b, o + 0, none⟩ = some (.int .u8 1) := hc0
  have hc1' : w2.cell? ⟨b, o + 1, none⟩ = some (.int .u8 97) := hc1
  repeat (first | refine sp ?_ | (refine is_load ?_; refine ld ?_) | (refine is_store ?_; refine sr ?_) | (refine is_alloc ?_; refine al ?_) | (refine is_box ?_; refine bx ?_))
  refine go_lit rfl rfl rfl (by decide) (by decide) rfl ?_
  refine sp ?_
  refine go_strBytes (a := ⟨w2.heap.size, 0, none⟩) rfl rfl (At.new w2 _ _) ?_
  have hx3 : Ext w2 ((w2.alloc (.cells [Value.int .u8 49, .int .u8 50, .int .u8 51, .int .u8 52, .int .u8 53, .int .u8 54, .int .u8 55, .int .u8 56, .int .u8 57].toArray 5)).freeze ⟨w2.heap.size, 9, none⟩ 1) := freeze_ext ((Fr.refl _ _).alloc _) (Nat.le_refl _)
  generalize hw3 : (w2.alloc (.cells [Value.int .u8 49, .int .u8 50, .int .u8 51, .int .u8 52, .int .u8 53, .int .u8 54, .int .u8 55, .int .u8 56, .int .u8 57].toArray 5)).freeze ⟨w2.heap.size, 9, none⟩ 1 = w3 at *
  have hb : By w3 (.slice (some ⟨w2.heap.size, 0, none⟩) 9 9) [49#8, 50#8, 51#8, 52#8, 53#8, 54#8, 55#8, 56#8, 57#8] := by
    refine ⟨_, _, rfl, Nat.le_refl _, fun j u hj => ⟨_, _, rfl, ?_⟩⟩
    rw [← hw3, freeze_cell]
    have := (At.new w2 [Value.int .u8 49, .int .u8 50, .int .u8 51, .int .u8 52, .int .u8 53, .int .u8 54, .int .u8 55, .int .u8 56, .int .u8 57] 5).cell (i := j) (v := u) hj
    simpa using this
  repeat (first | refine sp ?_ | (refine is_load ?_; refine ld ?_) | (refine is_store ?_; refine sr ?_) | (refine is_alloc ?_; refine al ?_) | (refine is_box ?_; refine bx ?_))
  refine go_call rfl rfl (c_Checksum _ _ w3 (by simp) hb) ?_
  rintro r w4 ⟨rfl, hx4⟩
  rw [e2]
  repeat (first | refine sp ?_ | (refine is_load ?_; refine ld ?_) | (refine is_store ?_; refine sr ?_) | (refine is_alloc ?_; refine al ?_) | (refine is_box ?_; refine bx ?_))
  exact go_ret1 rfl rfl ⟨_, rfl, rfl, ((hx1.trans hx).trans hx3).trans hx4⟩

end Go.Proofs.Ytfgkleggbcpinaa
