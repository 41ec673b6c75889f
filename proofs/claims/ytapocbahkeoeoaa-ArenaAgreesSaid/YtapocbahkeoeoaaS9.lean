/-
  The program's arena: Release.
-/
import Derived.Test.YtapocbahkeoeoaaS8
set_option linter.unusedVariables false
namespace Go.Vc

theorem Fr.of_grown {w w' : World} {r : Option Nat} (h : w.grownBy w' r) : Fr (fun b => r = some b) w w' :=
  ⟨h.os, h.tape, h.output, h.size, fun b hb hS => h.block b hb fun e => hS e.symm⟩

/-- The last element is taken off. -/
theorem Own.pop {w : World} {lo : Nat} {e : TypeId} {v : Value} {n : Nat} {xs : List Value} {x : Value} (h : Own w lo e 1 v (n + 1) (xs ++ [x])) :
    ∃ g cap, v = .slice (some ⟨g, 0, none⟩) (n + 1) cap ∧ n + 1 ≤ cap ∧ w.cell? ⟨g, 0 + n, none⟩ = some x ∧ Own w lo e 1 (.slice (some ⟨g, 0, none⟩) n cap) n xs := by
  obtain ⟨g, cap, C, rfl, hg, ha, hc, hm, hl, hn⟩ := h.block1 (by omega)
  have hxl : xs.length = n := by simpa using hn
  refine ⟨g, cap, rfl, hc, ?_, ?_⟩
  · rw [Nat.zero_add]
    refine ha.cell ?_
    rw [List.append_assoc, List.getElem?_append_right (by omega), hxl]
    simp
  · refine Own.of_block1 (C := x :: C) hxl.symm hg (by rw [List.append_assoc] at ha; exact ha) hm ?_
    simp at hl ⊢; omega

end Go.Vc
namespace Go.Proofs.Ytapocbahkeoeoaa
open Go.Vc

def AR.dec (A : AR) (k : Nat) : AR := { A with cnt := upd A.cnt k (w64 (A.cnt k - 1)) }
def AR.gone (A : AR) (k : Nat) : AR := { A.unput k with node := upd A.node k Nd.zero }
def kids (x : Nd) : List Nat := (if x.left = 0 then [] else [x.left]) ++ (if x.right = 0 then [] else [x.right])

/-- The releases that a stack of references (its top first) brings about, in so many steps: the state in the end, and how many slots became free. -/
def RelN : Nat → AR → List Nat → AR → Nat → Prop
  | 0, A, ws, B, n => ws = [] ∧ A = B ∧ n = 0
  | s + 1, A, ws, B, n => ∃ k ws', ws = k :: ws' ∧ A.used k = true ∧
      ((0 < (A.dec k).cnt k ∧ RelN s (A.dec k) ws' B n) ∨ (¬ 0 < (A.dec k).cnt k ∧ ∃ m, n = m + 1 ∧ RelN s ((A.dec k).gone k) (kids (A.node k) ++ ws') B m))

theorem NdOk.gone {A : AR} (h : NdOk A) (k : Nat) : NdOk (A.gone k) := by
  constructor <;> intro i hi
  · have hi : upd A.used k false i = true := hi
    show (upd A.node k Nd.zero i).left ≤ A.cap ∧ (upd A.node k Nd.zero i).right ≤ A.cap
    unfold upd at hi ⊢
    split
    · rename_i e; rw [if_pos e] at hi; cases hi
    · rename_i e; rw [if_neg e] at hi; exact h.ch i hi
  · have hi : upd A.used k false i = true := hi
    show 1 ≤ (upd A.node k Nd.zero i).size ∧ (upd A.node k Nd.zero i).size ≤ 2147483647
    unfold upd at hi ⊢
    split
    · rename_i e; rw [if_pos e] at hi; cases hi
    · rename_i e; rw [if_neg e] at hi; exact h.sz i hi

theorem kids_len (x : Nd) : (kids x).length ≤ 2 := by unfold kids; split <;> split <;> simp

theorem p_Release0 (w : World) (p : Nat) :
    Calls Try.prog 42 [ptr p, .int .u32 0].toArray w (Ret fun r w' => r = .tuple #[.int .i64 0, .int .i64 0] ∧ w' = w) := by
  refine calls_go Try.func42 rfl Try.ntmps42 (Nat.le_of_ble_eq_true rfl) ?_
  repeat (first | refine sp ?_ | (refine is_load ?_; refine ld ?_) | (refine is_store ?_; refine sr ?_) | (refine is_alloc ?_; refine al ?_) | (refine is_box ?_; refine bx ?_) | (refine isl_load ?_; refine ldl ?_) | (refine isl_store ?_; refine srl ?_) | (refine isl_alloc ?_; refine all' ?_) | (refine isl_box ?_; refine bxl ?_) | refine dr Try.follows ?_)
  exact go_ret2 rfl rfl rfl ⟨_, rfl, rfl, rfl⟩

theorem p_ReleaseBad (w : World) (lo p : Nat) (q : AP) (A : AR) (i : Nat) (h : ArP w lo p q A) (hi : i < 4294967296) (h0 : i ≠ 0) (hu : A.used i = false) :
    Calls Try.prog 42 [ptr p, .int .u32 (i : Int)].toArray w (Ret fun r w' => r = .tuple #[.int .i64 0, .int .i64 3] ∧ Ext w w') := by
  obtain ⟨rfl, h⟩ := h
  have hp := h.hp
  unfold arC at hp
  refine calls_go Try.func42 rfl Try.ntmps42 (Nat.le_of_ble_eq_true rfl) ?_
  repeat (first | refine sp ?_ | (refine is_load ?_; refine ld ?_) | (refine is_store ?_; refine sr ?_) | (refine is_alloc ?_; refine al ?_) | (refine is_box ?_; refine bx ?_) | (refine isl_load ?_; refine ldl ?_) | (refine isl_store ?_; refine srl ?_) | (refine isl_alloc ?_; refine all' ?_) | (refine isl_box ?_; refine bxl ?_) | refine dr Try.follows ?_)
  refine go_call rfl rfl (c_slAllocated _ lo q A i h.sl hi) ?_
  rintro r w1 ⟨rfl, hx⟩
  rw [hu]
  repeat (first | refine sp ?_ | (refine is_load ?_; refine ld ?_) | (refine is_store ?_; refine sr ?_) | (refine is_alloc ?_; refine al ?_) | (refine is_box ?_; refine bx ?_) | (refine isl_load ?_; refine ldl ?_) | (refine isl_store ?_; refine srl ?_) | (refine isl_alloc ?_; refine all' ?_) | (refine isl_box ?_; refine bxl ?_) | refine dr Try.follows ?_)
  exact go_ret2 rfl rfl rfl ⟨_, rfl, rfl, hx⟩

theorem SlAt.apart {w : World} {lo : Nat} {q : AP} {A : AR} (h : SlAt w lo q A) {b : Nat} {C : List Value} {T : TypeId} (hb : At w b C T) (h1 : T ≠ 115) (h2 : T ≠ 4) (h3 : T ≠ 27) : ¬ (b = q.s ∨ b = q.ub ∨ q.rv.ownBlock = some b) := by
  rintro (rfl | rfl | e)
  · exact hb.ne h.hs h1 rfl
  · exact hb.ne h.hu h2 rfl
  · obtain ⟨_, C', hat⟩ := h.hr.block_lt e
    exact hb.ne hat h3 rfl

set_option maxHeartbeats 4000000 in
theorem p_Release (w : World) (lo p : Nat) (q : AP) (A B : AR) (i s n : Nat) (h : ArP w lo p q A) (hlo : lo ≤ w.heap.size) (hi : i < 4294967296) (h0 : i ≠ 0) (hu : A.used i = true) (hR : RelN s A [i] B n) (hn : n ≤ 1000000) (hs : s ≤ 1000000) :
    Calls Try.prog 42 [ptr p, .int .u32 (i : Int)].toArray w (Ret fun r w' => r = .tuple #[.int .i64 (n : Int), .int .i64 0] ∧ ∃ q', ArP w' lo p q' B ∧ (∀ b, q'.fp b → q.fp b ∨ w.heap.size ≤ b) ∧ Fr q.fp w w') := by
  have hp := h.2.hp
  rw [h.1] at hp
  unfold arC at hp
  refine calls_go Try.func42 rfl Try.ntmps42 (Nat.le_of_ble_eq_true rfl) ?_
  repeat (first | refine sp ?_ | (refine is_load ?_; refine ld ?_) | (refine is_store ?_; refine sr ?_) | (refine is_alloc ?_; refine al ?_) | (refine is_box ?_; refine bx ?_) | (refine isl_load ?_; refine ldl ?_) | (refine isl_store ?_; refine srl ?_) | (refine isl_alloc ?_; refine all' ?_) | (refine isl_box ?_; refine bxl ?_) | refine dr Try.follows ?_)
  refine go_call rfl rfl (c_slAllocated _ lo q A i h.2.sl hi) ?_
  rintro r w1 ⟨rfl, hx⟩
  rw [hu]
  repeat (first | refine sp ?_ | (refine is_load ?_; refine ld ?_) | (refine is_store ?_; refine sr ?_) | (refine is_alloc ?_; refine al ?_) | (refine is_box ?_; refine bx ?_) | (refine isl_load ?_; refine ldl ?_) | (refine isl_store ?_; refine srl ?_) | (refine isl_alloc ?_; refine all' ?_) | (refine isl_box ?_; refine bxl ?_) | refine dr Try.follows ?_)
  refine go_litG (l := [.int .u32 (i : Int)]) rfl rfl (by decide) (by decide) rfl ?_
  have hx1 : Ext w (w1.alloc (.cells [Value.int .u32 (i : Int)].toArray 27)) := hx.alloc _
  have hown : OwnN (w1.alloc (.cells [Value.int .u32 (i : Int)].toArray 27)) w.heap.size (.slice (some ⟨w1.heap.size, 0, none⟩) 1 1) [i] :=
    Own.of_block1 (C := []) rfl hx.size (At.new _ _ _) (by unfold maxLen; omega) rfl
  generalize hw2 : w1.alloc (.cells [Value.int .u32 (i : Int)].toArray 27) = w2 at *
  have hdis : ∀ b, (Value.slice (some ⟨w1.heap.size, 0, none⟩) 1 1).ownBlock = some b → ¬ q.fp b := by
    intro b hb hf
    simp only [Value.ownBlock, Option.some.injEq] at hb
    have := h.lt b hf
    have := hx.size
    omega
  repeat (first | refine sp ?_ | (refine is_load ?_; refine ld ?_) | (refine is_store ?_; refine sr ?_) | (refine is_alloc ?_; refine al ?_) | (refine is_box ?_; refine bx ?_) | (refine isl_load ?_; refine ldl ?_) | (refine isl_store ?_; refine srl ?_) | (refine isl_alloc ?_; refine all' ?_) | (refine isl_box ?_; refine bxl ?_) | refine dr Try.follows ?_)
  refine go_loop (G := Nat × AP × AR × List Nat × Nat × Nat × Value) [6, 7] (fun ⟨_, _, _, _, f, _, v⟩ => [.int .i64 (f : Int), v]) [(0, ptr p)]
    (fun ⟨s, q', A', ws, f, m, v⟩ w' => s ≤ 1000000 ∧ ws.length ≤ 2000000 - s ∧ (∀ k ∈ ws, k < 4294967296) ∧ RelN s A' ws B m ∧ f + m = n ∧ ArP w' lo p q' A' ∧ OwnN w' w.heap.size v ws.reverse ∧ (∀ b, v.ownBlock = some b → ¬ q'.fp b) ∧ (∀ b, q'.fp b → q.fp b ∨ w.heap.size ≤ b) ∧ Fr q.fp w w')
    (fun g => g.1) (s, q, A, [i], 0, n, .slice (some ⟨w1.heap.size, 0, none⟩) 1 1) rfl ⟨rfl, trivial⟩ ⟨hs, by simp; omega, by simpa using hi, hR, by simp, h.ext hx1, hown, hdis, fun b hb => Or.inl hb, Fr.of_ext hx1⟩ ?_
  rintro ⟨s, q1, A1, ws, f, m, v⟩ w3 ⟨hs1, hwl, hwb, hR1, hfm, ha1, ho1, hd1, hq1, hf1⟩
  cases s with
  | zero =>
    obtain ⟨rfl, rfl, rfl⟩ := hR1
    obtain ⟨sv, cv, rfl, hcv, _⟩ := ho1.slice
    repeat (first | refine sp ?_ | (refine is_load ?_; refine ld ?_) | (refine is_store ?_; refine sr ?_) | (refine is_alloc ?_; refine al ?_) | (refine is_box ?_; refine bx ?_) | (refine isl_load ?_; refine ldl ?_) | (refine isl_store ?_; refine srl ?_) | (refine isl_alloc ?_; refine all' ?_) | (refine isl_box ?_; refine bxl ?_) | refine dr Try.follows ?_)
    exact go_ret2 rfl rfl rfl ⟨_, rfl, by simp at hfm; rw [hfm], q1, ha1, hq1, hf1⟩
  | succ s =>
    obtain ⟨k, ws', rfl, hku, hkk⟩ := hR1
    have hwf := ha1.wf
    have hcap := hwf.capM
    obtain ⟨hk1, hkc⟩ := used_le hwf hku
    unfold OwnN at ho1
    rw [List.reverse_cons, List.map_append, List.length_append] at ho1
    obtain ⟨g, cap, rfl, hcap2, hcell, ho2⟩ := ho1.pop
    have hp1 := ha1.2.hp
    rw [ha1.1] at hp1
    unfold arC at hp1
    have hc1 := ha1.2.hc
    have hl1 : (cellsF (fun i => [Value.int .i64 (A1.cnt i)]) (A1.cap + 1))[0 + k]? = some (.int .i64 (A1.cnt k)) := by
      rw [Nat.zero_add]; exact one_get (f := fun i => Value.int .i64 (A1.cnt i)) (by omega)
    have es : (cellsF (fun i => [Value.int .i64 (A1.cnt i)]) (A1.cap + 1)).set (0 + k) (.int .i64 (IntKind.i64.wrap (A1.cnt k - 1))) = cellsF (fun j => [Value.int .i64 ((A1.dec k).cnt j)]) (A1.cap + 1) := by
      rw [Nat.zero_add]; exact one_set' (Value.int .i64) A1.cnt (by omega)
    generalize hnl : ws'.reverse.length = nl at *
    have hnl2 : ws'.length = nl := by rw [← hnl, List.length_reverse]
    rw [List.length_cons, hnl2] at hwl
    have e27 : ((nl + [k].length : Nat) : Int) = (nl : Int) + 1 := by simp
    repeat (first | refine sp ?_ | (refine is_load ?_; refine ld ?_) | (refine is_alloc ?_; refine al ?_) | (refine is_box ?_; refine bx ?_) | (refine isl_load ?_; refine ldl ?_) | (refine isl_alloc ?_; refine all' ?_) | (refine isl_box ?_; refine bxl ?_) | refine dr Try.follows ?_)
    refine go_as 27 (u' := .int .i64 (nl : Int)) rfl (by congr 1; first | omega | (simp; done) | (simp; omega)) ?_
    repeat (first | refine sp ?_ | (refine is_load ?_; refine ld ?_) | (refine is_alloc ?_; refine al ?_) | (refine is_box ?_; refine bx ?_) | (refine isl_load ?_; refine ldl ?_) | (refine isl_alloc ?_; refine all' ?_) | (refine isl_box ?_; refine bxl ?_) | refine dr Try.follows ?_)
    refine go_as 33 (u' := .int .i64 (nl : Int)) rfl (by congr 1; first | omega | (simp; done) | (simp; omega)) ?_
    refine go_p rfl (pr_sl (lo := 0) (hi := nl) (by decide) rfl rfl ⟨_, _, rfl, rfl⟩ (by omega) (by omega)) ?_
    rw [cutA0]
    repeat (first | refine sp ?_ | (refine is_load ?_; refine ld ?_) | (refine is_alloc ?_; refine al ?_) | (refine is_box ?_; refine bx ?_) | (refine isl_load ?_; refine ldl ?_) | (refine isl_alloc ?_; refine all' ?_) | (refine isl_box ?_; refine bxl ?_) | refine dr Try.follows ?_)
    refine go_store rfl rfl (st_at hc1 (by simp; omega) rfl) ?_
    rw [es]
    have ha2 : ArP (w3.setRow q1.cb (cellsF (fun j => [Value.int .i64 ((A1.dec k).cnt j)]) (A1.cap + 1)).toArray) lo p q1 (A1.dec k) := ⟨ha1.1, ha1.2.setCnt _⟩
    have hf2 : Fr q.fp w (w3.setRow q1.cb (cellsF (fun j => [Value.int .i64 ((A1.dec k).cnt j)]) (A1.cap + 1)).toArray) := Fr.setRow hf1 _ (hq1 _ (by simp [AP.fp]))
    have ho3 : OwnN (w3.setRow q1.cb (cellsF (fun j => [Value.int .i64 ((A1.dec k).cnt j)]) (A1.cap + 1)).toArray) w.heap.size (.slice (some ⟨g, 0, none⟩) nl cap) ws'.reverse := by
      unfold OwnN
      rw [hnl]
      exact Own.of_heap ho2 fun g' hg => setRow_other _ _ _ _ fun e => hd1 g' hg (by rw [e]; simp [AP.fp])
    generalize w3.setRow q1.cb (cellsF (fun j => [Value.int .i64 ((A1.dec k).cnt j)]) (A1.cap + 1)).toArray = w4 at *
    have hp2 := ha2.2.hp
    rw [ha2.1] at hp2
    unfold arC at hp2
    have hc2 := ha2.2.hc
    have hl2 : (cellsF (fun i => [Value.int .i64 ((A1.dec k).cnt i)]) ((A1.dec k).cap + 1))[0 + k]? = some (.int .i64 ((A1.dec k).cnt k)) := by
      rw [Nat.zero_add]; exact one_get (f := fun i => Value.int .i64 ((A1.dec k).cnt i)) (by show k < A1.cap + 1; omega)
    have hku2 : (A1.dec k).used k = true := hku
    have hkc2 : k ≤ (A1.dec k).cap := hkc
    have hcap2 : (A1.dec k).cap ≤ 65536 := hcap
    have hnode2 : (A1.dec k).node = A1.node := rfl
    have hw' : ∀ j ∈ ws', j < 4294967296 := fun j hj => hwb j (by simp [hj])
    rcases hkk with ⟨hpos, hR2⟩ | ⟨hpos, m', rfl, hR2⟩
    · generalize A1.dec k = A2 at *
      repeat (first | refine sp ?_ | (refine is_load ?_; refine ld ?_) | (refine is_alloc ?_; refine al ?_) | (refine is_box ?_; refine bx ?_) | (refine isl_load ?_; refine ldl ?_) | (refine isl_alloc ?_; refine all' ?_) | (refine isl_box ?_; refine bxl ?_) | refine dr Try.follows ?_)
      refine go_stop (G := Nat × AP × AR × List Nat × Nat × Nat × Value) (s, q1, A2, ws', f, m, .slice (some ⟨g, 0, none⟩) nl cap) rfl ⟨rfl, trivial⟩ ⟨by omega, by omega, hw', hR2, hfm, ha2, ho3, hd1, hq1, hf2⟩ (by show s < s + 1; omega)
    rw [← hnode2] at hR2
    generalize A1.dec k = A2 at *
    have hok2 := ha2.ok
    obtain ⟨hch1, hch2⟩ := hok2.ch k hku2
    have hsl2 := ha2.2.sl
    have hn2 := ha2.2.hn
    have f1 := hn2.lt
    have f2 := hp2.lt
    have f3 := hc2.lt
    have hsz2 := hf2.size
    have hd2 : ∀ b, (Value.slice (some ⟨g, 0, none⟩) nl cap).ownBlock = some b → ¬ q1.fp b := hd1
    repeat (first | refine sp ?_ | (refine is_load ?_; refine ld ?_) | (refine is_alloc ?_; refine al ?_) | (refine is_box ?_; refine bx ?_) | (refine isl_load ?_; refine ldl ?_) | (refine isl_alloc ?_; refine all' ?_) | (refine isl_box ?_; refine bxl ?_) | refine dr Try.follows ?_)
    refine go_load rfl rfl (node_ld hn2 (by omega)) ?_
    generalize hN : A2.node k = N at *
    repeat (first | refine sp ?_ | (refine is_load ?_; refine ld ?_) | (refine is_store ?_; refine sr ?_) | (refine is_alloc ?_; refine al ?_) | (refine is_box ?_; refine bx ?_) | (refine isl_load ?_; refine ldl ?_) | (refine isl_store ?_; refine srl ?_) | (refine isl_alloc ?_; refine all' ?_) | (refine isl_box ?_; refine bxl ?_) | refine dr Try.follows ?_)
    refine go_store rfl rfl (st_agg (m := 8) (l := Nd.zero.cells) (by (repeat (first | assumption | (refine At.new' (by (first | omega | (simp; done) | (simp; omega))) _ _) | apply At.alloc | apply At.drewN | apply At.setRow | (apply At.setRow_neF; first | assumption | (apply Ne.symm; assumption) | omega) | (apply At.extF; assumption)))) rfl (by decide) (by rw [cellsF_len (m := 8) (fun _ => rfl), nd_len]; omega) (nd_one _)) ?_
    rw [node_splice (f := A2.node) (by omega)]
    have hoW : OwnN (((w4.alloc (.cells [Value.int .i64 0, .int .i64 0, .int .u32 0, .int .u32 0, .int .i64 0, .int .i64 0, .int .i64 0, .int .i64 0].toArray 50)).setRow w4.heap.size [Value.int .i64 N.key, .int .i64 N.val, .int .u32 (N.left : Int), .int .u32 (N.right : Int), .int .i64 N.size, .int .i64 N.sum, .int .i64 N.mn, .int .i64 N.mx].toArray).setRow q1.nb (cellsF (fun j => (upd A2.node k Nd.zero j).cells) (A2.cap + 1)).toArray) w.heap.size (.slice (some ⟨g, 0, none⟩) nl cap) ws'.reverse := by
      refine Own.of_heap ho3 fun g' hg => ?_
      have hlt := (Own.block_lt ho3 hg).1
      rw [setRow_other _ _ _ _ (fun e => hd2 g' hg (by rw [e]; simp [AP.fp])), setRow_other _ _ _ _ (by omega)]
      exact heap_alloc_old _ _ hlt
    have hfW : Fr q.fp w (((w4.alloc (.cells [Value.int .i64 0, .int .i64 0, .int .u32 0, .int .u32 0, .int .i64 0, .int .i64 0, .int .i64 0, .int .i64 0].toArray 50)).setRow w4.heap.size [Value.int .i64 N.key, .int .i64 N.val, .int .u32 (N.left : Int), .int .u32 (N.right : Int), .int .i64 N.size, .int .i64 N.sum, .int .i64 N.mn, .int .i64 N.mx].toArray).setRow q1.nb (cellsF (fun j => (upd A2.node k Nd.zero j).cells) (A2.cap + 1)).toArray) :=
      Fr.setRow (Fr.setRow (hf2.alloc _) _ (Or.inr hsz2)) _ (hq1 _ (by simp [AP.fp]))
    have hslW : SlAt (((w4.alloc (.cells [Value.int .i64 0, .int .i64 0, .int .u32 0, .int .u32 0, .int .i64 0, .int .i64 0, .int .i64 0, .int .i64 0].toArray 50)).setRow w4.heap.size [Value.int .i64 N.key, .int .i64 N.val, .int .u32 (N.left : Int), .int .u32 (N.right : Int), .int .i64 N.size, .int .i64 N.sum, .int .i64 N.mn, .int .i64 N.mx].toArray).setRow q1.nb (cellsF (fun j => (upd A2.node k Nd.zero j).cells) (A2.cap + 1)).toArray) lo q1 A2 := by
      refine hsl2.keep fun b hb => ?_
      have hbl : b < w4.heap.size := ha2.lt b (by rcases hb with rfl | rfl | rfl | h <;> simp_all [AP.fp])
      have hbn : b ≠ q1.nb := by
        rcases hb with rfl | rfl | rfl | hb
        · exact hsl2.hs.ne hn2 (by decide)
        · exact hsl2.hu.ne hn2 (by decide)
        · exact hsl2.hg.ne hn2 (by decide)
        · obtain ⟨_, C, hat⟩ := hsl2.hr.block_lt hb
          exact hat.ne hn2 (by decide)
      rw [setRow_other _ _ _ _ hbn, setRow_other _ _ _ _ (by omega)]
      exact heap_alloc_old _ _ hbl
    have hpn := hp2.ne hn2 (by decide)
    have hcn := hc2.ne hn2 (by decide)
    have hpW : At (((w4.alloc (.cells [Value.int .i64 0, .int .i64 0, .int .u32 0, .int .u32 0, .int .i64 0, .int .i64 0, .int .i64 0, .int .i64 0].toArray 50)).setRow w4.heap.size [Value.int .i64 N.key, .int .i64 N.val, .int .u32 (N.left : Int), .int .u32 (N.right : Int), .int .i64 N.size, .int .i64 N.sum, .int .i64 N.mn, .int .i64 N.mx].toArray).setRow q1.nb (cellsF (fun j => (upd A2.node k Nd.zero j).cells) (A2.cap + 1)).toArray) p [.pointer (some ⟨q1.s, 0, none⟩), .slice (some ⟨q1.nb, 0, none⟩) (A2.cap + 1) (A2.cap + 1), .slice (some ⟨q1.cb, 0, none⟩) (A2.cap + 1) (A2.cap + 1), .int .u64 (A2.reads : Int)] 97 := by (repeat (first | assumption | (refine At.new' (by (first | omega | (simp; done) | (simp; omega))) _ _) | apply At.alloc | apply At.drewN | apply At.setRow | (apply At.setRow_neF; first | assumption | (apply Ne.symm; assumption) | omega) | (apply At.extF; assumption)))
    have hcW : At (((w4.alloc (.cells [Value.int .i64 0, .int .i64 0, .int .u32 0, .int .u32 0, .int .i64 0, .int .i64 0, .int .i64 0, .int .i64 0].toArray 50)).setRow w4.heap.size [Value.int .i64 N.key, .int .i64 N.val, .int .u32 (N.left : Int), .int .u32 (N.right : Int), .int .i64 N.size, .int .i64 N.sum, .int .i64 N.mn, .int .i64 N.mx].toArray).setRow q1.nb (cellsF (fun j => (upd A2.node k Nd.zero j).cells) (A2.cap + 1)).toArray) q1.cb (cellsF (fun i => [.int .i64 (A2.cnt i)]) (A2.cap + 1)) 3 := by (repeat (first | assumption | (refine At.new' (by (first | omega | (simp; done) | (simp; omega))) _ _) | apply At.alloc | apply At.drewN | apply At.setRow | (apply At.setRow_neF; first | assumption | (apply Ne.symm; assumption) | omega) | (apply At.extF; assumption)))
    have hnW : At (((w4.alloc (.cells [Value.int .i64 0, .int .i64 0, .int .u32 0, .int .u32 0, .int .i64 0, .int .i64 0, .int .i64 0, .int .i64 0].toArray 50)).setRow w4.heap.size [Value.int .i64 N.key, .int .i64 N.val, .int .u32 (N.left : Int), .int .u32 (N.right : Int), .int .i64 N.size, .int .i64 N.sum, .int .i64 N.mn, .int .i64 N.mx].toArray).setRow q1.nb (cellsF (fun j => (upd A2.node k Nd.zero j).cells) (A2.cap + 1)).toArray) q1.nb (cellsF (fun j => (upd A2.node k Nd.zero j).cells) (A2.cap + 1)) 50 := by (repeat (first | assumption | (refine At.new' (by (first | omega | (simp; done) | (simp; omega))) _ _) | apply At.alloc | apply At.drewN | apply At.setRow | (apply At.setRow_neF; first | assumption | (apply Ne.symm; assumption) | omega) | (apply At.extF; assumption)))
    have hln : w4.heap.size ≠ q1.nb := by omega
    have hlW : At (((w4.alloc (.cells [Value.int .i64 0, .int .i64 0, .int .u32 0, .int .u32 0, .int .i64 0, .int .i64 0, .int .i64 0, .int .i64 0].toArray 50)).setRow w4.heap.size [Value.int .i64 N.key, .int .i64 N.val, .int .u32 (N.left : Int), .int .u32 (N.right : Int), .int .i64 N.size, .int .i64 N.sum, .int .i64 N.mn, .int .i64 N.mx].toArray).setRow q1.nb (cellsF (fun j => (upd A2.node k Nd.zero j).cells) (A2.cap + 1)).toArray) w4.heap.size [Value.int .i64 N.key, .int .i64 N.val, .int .u32 (N.left : Int), .int .u32 (N.right : Int), .int .i64 N.size, .int .i64 N.sum, .int .i64 N.mn, .int .i64 N.mx] 50 := by (repeat (first | assumption | (refine At.new' (by (first | omega | (simp; done) | (simp; omega))) _ _) | apply At.alloc | apply At.drewN | apply At.setRow | (apply At.setRow_neF; first | assumption | (apply Ne.symm; assumption) | omega) | (apply At.extF; assumption)))
    generalize ((w4.alloc (.cells [Value.int .i64 0, .int .i64 0, .int .u32 0, .int .u32 0, .int .i64 0, .int .i64 0, .int .i64 0, .int .i64 0].toArray 50)).setRow w4.heap.size [Value.int .i64 N.key, .int .i64 N.val, .int .u32 (N.left : Int), .int .u32 (N.right : Int), .int .i64 N.size, .int .i64 N.sum, .int .i64 N.mn, .int .i64 N.mx].toArray).setRow q1.nb (cellsF (fun j => (upd A2.node k Nd.zero j).cells) (A2.cap + 1)).toArray = W at *
    generalize w4.heap.size = lb at *
    repeat (first | refine sp ?_ | (refine is_load ?_; refine ld ?_) | (refine is_store ?_; refine sr ?_) | (refine is_alloc ?_; refine al ?_) | (refine is_box ?_; refine bx ?_) | (refine isl_load ?_; refine ldl ?_) | (refine isl_store ?_; refine srl ?_) | (refine isl_alloc ?_; refine all' ?_) | (refine isl_box ?_; refine bxl ?_) | refine dr Try.follows ?_)
    refine go_call rfl rfl (c_slRelease W lo q1 A2 k hslW (by have := hfW.size; omega) hku2) ?_
    rintro r w5 ⟨rfl, rv, hsl5, hrv5, hf5⟩
    have hin : ∀ b, (b = q1.s ∨ b = q1.ub ∨ q1.rv.ownBlock = some b) → q1.fp b := by
      rintro b (rfl | rfl | h) <;> simp_all [AP.fp]
    have hp5 := hpW.fr hf5 (hslW.apart hpW (by decide) (by decide) (by decide))
    have hc5 := hcW.fr hf5 (hslW.apart hcW (by decide) (by decide) (by decide))
    have hn5 := hnW.fr hf5 (hslW.apart hnW (by decide) (by decide) (by decide))
    have hlE := hlW.fr hf5 (hslW.apart hlW (by decide) (by decide) (by decide))
    have hoE : OwnN w5 w.heap.size (.slice (some ⟨g, 0, none⟩) nl cap) ws'.reverse :=
      Own.of_heap hoW fun g' hg => hf5.block g' (Own.block_lt hoW hg).1 fun e => hd2 g' hg (hin g' e)
    have hq5 : ∀ b, AP.fp { q1 with rv := rv } b → q.fp b ∨ w.heap.size ≤ b := by
      have h9 := hfW.size
      rintro b (rfl | rfl | rfl | rfl | rfl | rfl | hb)
      · exact hq1 _ (by simp [AP.fp])
      · exact hq1 _ (by simp [AP.fp])
      · exact hq1 _ (by simp [AP.fp])
      · exact hq1 _ (by simp [AP.fp])
      · exact hq1 _ (by simp [AP.fp])
      · exact hq1 _ (by simp [AP.fp])
      · rcases hrv5 b hb with h | h
        · exact hq1 _ (by simp [AP.fp, h])
        · right; omega
    have haE : ArP w5 lo p { q1 with rv := rv } (A2.gone k) :=
      ⟨ha2.1, ⟨by rw [show (AP.mk q1.p q1.s q1.nb q1.cb q1.ub q1.gb rv).p = p from ha2.1]; exact hp5, hn5, hc5, hsl5.congr rfl rfl rfl rfl rfl, hok2.gone k, ha2.2.los⟩⟩
    have hdE : ∀ b, (Value.slice (some ⟨g, 0, none⟩) nl cap).ownBlock = some b → ¬ AP.fp { q1 with rv := rv } b := by
      intro b hb hfb
      have hbl := (Own.block_lt hoW hb).1
      have h1 := hd2 b hb
      rcases hfb with rfl | rfl | rfl | rfl | rfl | rfl | hfb
      · exact h1 (by simp [AP.fp])
      · exact h1 (by simp [AP.fp])
      · exact h1 (by simp [AP.fp])
      · exact h1 (by simp [AP.fp])
      · exact h1 (by simp [AP.fp])
      · exact h1 (by simp [AP.fp])
      · rcases hrv5 b hfb with h | h
        · exact h1 (by simp [AP.fp, h])
        · omega
    have hfE : Fr q.fp w w5 := hfW.trans' hf5 fun b hb hs => by
      rcases hq1 b (hin b hs) with h | h
      · exact h
      · omega
    generalize hq5' : AP.mk q1.p q1.s q1.nb q1.cb q1.ub q1.gb rv = q5 at *
    have hkb : ∀ j ∈ kids N ++ ws', j < 4294967296 := by
      intro j hj
      rw [List.mem_append] at hj
      rcases hj with hj | hj
      · unfold kids at hj
        rw [List.mem_append] at hj
        rcases hj with hj | hj
        · split at hj
          · cases hj
          · simp at hj; omega
        · split at hj
          · cases hj
          · simp at hj; omega
      · exact hw' j hj
    by_cases hr0 : N.right = 0
    · by_cases hl0 : N.left = 0
      · have hk : (kids N ++ ws').reverse = ws'.reverse := by simp [kids, hr0, hl0]
        repeat (first | refine sp ?_ | (refine is_load ?_; refine ld ?_) | (refine is_store ?_; refine sr ?_) | (refine is_alloc ?_; refine al ?_) | (refine is_box ?_; refine bx ?_) | (refine isl_load ?_; refine ldl ?_) | (refine isl_store ?_; refine srl ?_) | (refine isl_alloc ?_; refine all' ?_) | (refine isl_box ?_; refine bxl ?_) | refine dr Try.follows ?_)
        refine go_stop (G := Nat × AP × AR × List Nat × Nat × Nat × Value) (s, q5, A2.gone k, kids N ++ ws', f + 1, m', .slice (some ⟨g, 0, none⟩) nl cap) rfl ⟨rfl, trivial⟩ ⟨by omega, by simp only [List.length_append]; have := kids_len N; omega, hkb, hR2, by omega, haE, by rw [hk]; exact hoE, hdE, hq5, hfE⟩ (by show s < s + 1; omega)
      · have hk : (kids N ++ ws').reverse = ws'.reverse ++ [N.left] := by simp [kids, hr0, hl0]
        repeat (first | refine sp ?_ | (refine is_load ?_; refine ld ?_) | (refine is_store ?_; refine sr ?_) | (refine is_alloc ?_; refine al ?_) | (refine is_box ?_; refine bx ?_) | (refine isl_load ?_; refine ldl ?_) | (refine isl_store ?_; refine srl ?_) | (refine isl_alloc ?_; refine all' ?_) | (refine isl_box ?_; refine bxl ?_) | refine dr Try.follows ?_)
        refine go_pushG (by decide) rfl rfl rfl rfl hoE rfl (one_u32 _) (by omega) (by simp [maxLen]; omega) (by simp; omega) hfE.size ?_
        intro vF wF hoF hgF hbF
        have haF := haE.fr (Fr.of_grown hgF) (fun b hb e => hdE b e hb)
        have hdF : ∀ b, vF.ownBlock = some b → ¬ q5.fp b := fun b hb hf => by
          rcases hbF b hb with h | h
          · exact hdE b h hf
          · have := haE.lt b hf; omega
        have hfF : Fr q.fp w wF := hfE.trans' (Fr.of_grown hgF) fun b hb e => by
          have := (World.ownsRow.lt hoE b e).1
          omega
        have hlF := hlE.fr (Fr.of_grown hgF) (fun e => by
          obtain ⟨_, C, hat⟩ := Own.block_lt hoE e
          exact hlE.ne hat (by decide) rfl)
        have hoF' : OwnN wF w.heap.size vF (ws'.reverse ++ [N.left]) := by
          unfold OwnN; rw [List.map_append, List.length_append]; exact hoF
        repeat (first | refine sp ?_ | (refine is_load ?_; refine ld ?_) | (refine is_store ?_; refine sr ?_) | (refine is_alloc ?_; refine al ?_) | (refine is_box ?_; refine bx ?_) | (refine isl_load ?_; refine ldl ?_) | (refine isl_store ?_; refine srl ?_) | (refine isl_alloc ?_; refine all' ?_) | (refine isl_box ?_; refine bxl ?_) | refine dr Try.follows ?_)
        refine go_stop (G := Nat × AP × AR × List Nat × Nat × Nat × Value) (s, q5, A2.gone k, kids N ++ ws', f + 1, m', vF) rfl ⟨rfl, trivial⟩ ⟨by omega, by simp only [List.length_append]; have := kids_len N; omega, hkb, hR2, by omega, haF, by rw [hk]; exact hoF', hdF, hq5, hfF⟩ (by show s < s + 1; omega)
    · by_cases hl0 : N.left = 0
      · have hk : (kids N ++ ws').reverse = ws'.reverse ++ [N.right] := by simp [kids, hr0, hl0]
        repeat (first | refine sp ?_ | (refine is_load ?_; refine ld ?_) | (refine is_store ?_; refine sr ?_) | (refine is_alloc ?_; refine al ?_) | (refine is_box ?_; refine bx ?_) | (refine isl_load ?_; refine ldl ?_) | (refine isl_store ?_; refine srl ?_) | (refine isl_alloc ?_; refine all' ?_) | (refine isl_box ?_; refine bxl ?_) | refine dr Try.follows ?_)
        refine go_pushG (by decide) rfl rfl rfl rfl hoE rfl (one_u32 _) (by omega) (by simp [maxLen]; omega) (by simp; omega) hfE.size ?_
        intro vF wF hoF hgF hbF
        have haF := haE.fr (Fr.of_grown hgF) (fun b hb e => hdE b e hb)
        have hdF : ∀ b, vF.ownBlock = some b → ¬ q5.fp b := fun b hb hf => by
          rcases hbF b hb with h | h
          · exact hdE b h hf
          · have := haE.lt b hf; omega
        have hfF : Fr q.fp w wF := hfE.trans' (Fr.of_grown hgF) fun b hb e => by
          have := (World.ownsRow.lt hoE b e).1
          omega
        have hlF := hlE.fr (Fr.of_grown hgF) (fun e => by
          obtain ⟨_, C, hat⟩ := Own.block_lt hoE e
          exact hlE.ne hat (by decide) rfl)
        have hoF' : OwnN wF w.heap.size vF (ws'.reverse ++ [N.right]) := by
          unfold OwnN; rw [List.map_append, List.length_append]; exact hoF
        repeat (first | refine sp ?_ | (refine is_load ?_; refine ld ?_) | (refine is_store ?_; refine sr ?_) | (refine is_alloc ?_; refine al ?_) | (refine is_box ?_; refine bx ?_) | (refine isl_load ?_; refine ldl ?_) | (refine isl_store ?_; refine srl ?_) | (refine isl_alloc ?_; refine all' ?_) | (refine isl_box ?_; refine bxl ?_) | refine dr Try.follows ?_)
        refine go_stop (G := Nat × AP × AR × List Nat × Nat × Nat × Value) (s, q5, A2.gone k, kids N ++ ws', f + 1, m', vF) rfl ⟨rfl, trivial⟩ ⟨by omega, by simp only [List.length_append]; have := kids_len N; omega, hkb, hR2, by omega, haF, by rw [hk]; exact hoF', hdF, hq5, hfF⟩ (by show s < s + 1; omega)
      · have hk : (kids N ++ ws').reverse = ws'.reverse ++ [N.right] ++ [N.left] := by simp [kids, hr0, hl0]
        repeat (first | refine sp ?_ | (refine is_load ?_; refine ld ?_) | (refine is_store ?_; refine sr ?_) | (refine is_alloc ?_; refine al ?_) | (refine is_box ?_; refine bx ?_) | (refine isl_load ?_; refine ldl ?_) | (refine isl_store ?_; refine srl ?_) | (refine isl_alloc ?_; refine all' ?_) | (refine isl_box ?_; refine bxl ?_) | refine dr Try.follows ?_)
        refine go_pushG (by decide) rfl rfl rfl rfl hoE rfl (one_u32 _) (by omega) (by simp [maxLen]; omega) (by simp; omega) hfE.size ?_
        intro vF wF hoF hgF hbF
        have haF := haE.fr (Fr.of_grown hgF) (fun b hb e => hdE b e hb)
        have hdF : ∀ b, vF.ownBlock = some b → ¬ q5.fp b := fun b hb hf => by
          rcases hbF b hb with h | h
          · exact hdE b h hf
          · have := haE.lt b hf; omega
        have hfF : Fr q.fp w wF := hfE.trans' (Fr.of_grown hgF) fun b hb e => by
          have := (World.ownsRow.lt hoE b e).1
          omega
        have hlF := hlE.fr (Fr.of_grown hgF) (fun e => by
          obtain ⟨_, C, hat⟩ := Own.block_lt hoE e
          exact hlE.ne hat (by decide) rfl)
        have hoF' : OwnN wF w.heap.size vF (ws'.reverse ++ [N.right]) := by
          unfold OwnN; rw [List.map_append, List.length_append]; exact hoF
        repeat (first | refine sp ?_ | (refine is_load ?_; refine ld ?_) | (refine is_store ?_; refine sr ?_) | (refine is_alloc ?_; refine al ?_) | (refine is_box ?_; refine bx ?_) | (refine isl_load ?_; refine ldl ?_) | (refine isl_store ?_; refine srl ?_) | (refine isl_alloc ?_; refine all' ?_) | (refine isl_box ?_; refine bxl ?_) | refine dr Try.follows ?_)
        refine go_pushG (by decide) rfl rfl rfl rfl hoF' rfl (one_u32 _) (by omega) (by simp [maxLen]; omega) (by simp; omega) hfF.size ?_
        intro vG wG hoG hgG hbG
        have haG := haF.fr (Fr.of_grown hgG) (fun b hb e => hdF b e hb)
        have hdG : ∀ b, vG.ownBlock = some b → ¬ q5.fp b := fun b hb hf => by
          rcases hbG b hb with h | h
          · exact hdF b h hf
          · have := haF.lt b hf; omega
        have hfG : Fr q.fp w wG := hfF.trans' (Fr.of_grown hgG) fun b hb e => by
          have := (World.ownsRow.lt hoF' b e).1
          omega
        have hlG := hlF.fr (Fr.of_grown hgG) (fun e => by
          obtain ⟨_, C, hat⟩ := Own.block_lt hoF' e
          exact hlF.ne hat (by decide) rfl)
        have hoG' : OwnN wG w.heap.size vG ((ws'.reverse ++ [N.right]) ++ [N.left]) := by
          unfold OwnN; rw [List.map_append, List.length_append]; exact hoG
        repeat (first | refine sp ?_ | (refine is_load ?_; refine ld ?_) | (refine is_store ?_; refine sr ?_) | (refine is_alloc ?_; refine al ?_) | (refine is_box ?_; refine bx ?_) | (refine isl_load ?_; refine ldl ?_) | (refine isl_store ?_; refine srl ?_) | (refine isl_alloc ?_; refine all' ?_) | (refine isl_box ?_; refine bxl ?_) | refine dr Try.follows ?_)
        refine go_stop (G := Nat × AP × AR × List Nat × Nat × Nat × Value) (s, q5, A2.gone k, kids N ++ ws', f + 1, m', vG) rfl ⟨rfl, trivial⟩ ⟨by omega, by simp only [List.length_append]; have := kids_len N; omega, hkb, hR2, by omega, haG, by rw [hk]; exact hoG', hdG, hq5, hfG⟩ (by show s < s + 1; omega)

end Go.Proofs.Ytapocbahkeoeoaa
