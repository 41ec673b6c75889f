/-
  The program's arena: what its readers return, Retain, New.
-/
import Derived.Test.YtapocbahkeoeoaaS5
set_option linter.unusedVariables false
namespace Go.Proofs.Ytapocbahkeoeoaa
open Go.Vc

theorem wrap_u64 (n : Nat) : IntKind.u64.wrap ((n : Int) + 1) = (((n + 1) % 18446744073709551616 : Nat) : Int) := by
  simp [IntKind.wrap, IntKind.bits, IntKind.signed]

theorem Wf.congr {A A' : AR} (h : Wf A) (e1 : A'.cap = A.cap) (e2 : A'.used = A.used) (e3 : A'.gen = A.gen) (e4 : A'.rel = A.rel) (e5 : A'.fresh = A.fresh) : Wf A' :=
  ⟨by rw [e1]; exact h.cap1, by rw [e1]; exact h.capM, by rw [e1, e5]; exact h.fr, by rw [e2, e4, e5]; exact h.rl, by rw [e4]; exact h.nd, by rw [e2, e5]; exact h.uf, by rw [e2, e4, e5]; exact h.al, by rw [e3]; exact h.gn⟩

theorem SlAt.congr {w : World} {lo : Nat} {q : AP} {A A' : AR} (h : SlAt w lo q A) (e1 : A'.cap = A.cap) (e2 : A'.used = A.used) (e3 : A'.gen = A.gen) (e4 : A'.rel = A.rel) (e5 : A'.fresh = A.fresh) : SlAt w lo q A' :=
  ⟨by rw [e1, e5]; exact h.hs, by rw [e1, e2]; exact h.hu, by rw [e1, e3]; exact h.hg, by rw [e4]; exact h.hr, h.hrg, h.wf.congr e1 e2 e3 e4 e5⟩

theorem SlAt.keep {w w' : World} {lo : Nat} {q : AP} {A : AR} (h : SlAt w lo q A) (hh : ∀ b, b = q.s ∨ b = q.ub ∨ b = q.gb ∨ q.rv.ownBlock = some b → w'.heap[b]? = w.heap[b]?) : SlAt w' lo q A :=
  ⟨⟨(hh _ (by simp)).trans h.hs.h⟩, ⟨(hh _ (by simp)).trans h.hu.h⟩, ⟨(hh _ (by simp)).trans h.hg.h⟩, h.hr.of_heap fun g hg => hh g (by simp [hg]), h.hrg, h.wf⟩

/-- A write to a block of another kind leaves the allocator alone. -/
theorem SlAt.setRow {w : World} {lo : Nat} {q : AP} {A : AR} (h : SlAt w lo q A) {b : Nat} {C : List Value} {T : TypeId} (hb : At w b C T) (h1 : T ≠ 115) (h2 : T ≠ 4) (h3 : T ≠ 27) (cs : Array Value) : SlAt (w.setRow b cs) lo q A :=
  h.keep fun g hg => setRow_other _ _ _ _ fun e => by
    subst e
    rcases hg with rfl | rfl | rfl | hg
    · exact hb.ne h.hs h1 rfl
    · exact hb.ne h.hu h2 rfl
    · exact hb.ne h.hg h3 rfl
    · obtain ⟨_, C', hat⟩ := h.hr.block_lt hg
      exact hb.ne hat h3 rfl

theorem ArAt.setReads {w : World} {lo : Nat} {q : AP} {A : AR} (h : ArAt w lo q A) (r : Nat) : ArAt (w.setRow q.p (arC q A.cap r).toArray) lo q { A with reads := r } :=
  ⟨h.hp.setRow _, h.hn.setRow_ne (h.hp.ne h.hn (by decide)) _, h.hc.setRow_ne (h.hp.ne h.hc (by decide)) _, (h.sl.setRow h.hp (by decide) (by decide) (by decide) _).congr rfl rfl rfl rfl rfl, ⟨h.ok.ch, h.ok.sz⟩, h.los⟩

theorem ArAt.setCnt {w : World} {lo : Nat} {q : AP} {A : AR} (h : ArAt w lo q A) (c : Nat → Int) : ArAt (w.setRow q.cb (cellsF (fun i => [.int .i64 (c i)]) (A.cap + 1)).toArray) lo q { A with cnt := c } :=
  ⟨h.hp.setRow_ne (h.hc.ne h.hp (by decide)) _, h.hn.setRow_ne (h.hc.ne h.hn (by decide)) _, h.hc.setRow _, (h.sl.setRow h.hc (by decide) (by decide) (by decide) _).congr rfl rfl rfl rfl rfl, ⟨h.ok.ch, h.ok.sz⟩, h.los⟩

theorem ArAt.setNode {w : World} {lo : Nat} {q : AP} {A : AR} (h : ArAt w lo q A) (f : Nat → Nd) (hok : NdOk { A with node := f }) : ArAt (w.setRow q.nb (cellsF (fun i => (f i).cells) (A.cap + 1)).toArray) lo q { A with node := f } :=
  ⟨h.hp.setRow_ne (h.hn.ne h.hp (by decide)) _, h.hn.setRow _, h.hc.setRow_ne (h.hn.ne h.hc (by decide)) _, (h.sl.setRow h.hn (by decide) (by decide) (by decide) _).congr rfl rfl rfl rfl rfl, hok, h.los⟩

theorem nd_len (x : Nd) : x.cells.length = 8 := rfl

theorem node_ld {w : World} {nb n : Nat} {f : Nat → Nd} (h : At w nb (cellsF (fun i => (f i).cells) n) 50) {i : Nat} (hi : i < n) :
    Ld Try.prog w 50 ⟨nb, 0 + i * 8, none⟩ (.agg ⟨(f i).cells⟩) :=
  ld_agg (m := 8) h rfl (by decide) fun j u hj => by rw [Nat.zero_add]; exact cellsF_get (f := fun i => (f i).cells) (m := 8) (fun _ => rfl) hi hj

theorem node_cell {w : World} {nb n : Nat} {f : Nat → Nd} {T : TypeId} (h : At w nb (cellsF (fun i => (f i).cells) n) T) {i j : Nat} {u : Value} (hi : i < n) (hu : (f i).cells[j]? = some u) : w.cell? ⟨nb, 0 + i * 8 + j, none⟩ = some u := by
  rw [Nat.zero_add]
  exact h.cell (cellsF_get (f := fun i => (f i).cells) (m := 8) (fun _ => rfl) hi hu)

theorem used_le {A : AR} (h : Wf A) {i : Nat} (hi : A.used i = true) : 1 ≤ i ∧ i ≤ A.cap := by
  have := h.uf i hi; have := h.fr; omega

theorem c_Node (w : World) (lo : Nat) (q : AP) (A : AR) (i : Nat) (h : ArAt w lo q A) (hi : i < 4294967296) :
    Calls Try.prog 40 [.pointer (some ⟨q.p, 0, none⟩), .int .u32 (i : Int)].toArray w (Ret fun r w' => r = .tuple #[.agg ⟨(A.nodeOf i).cells⟩, .bool (A.used i)] ∧ ArAt w' lo q (A.read i) ∧ Fr (fun b => b = q.p) w w') := by
  have hp := h.hp
  unfold arC at hp
  have hcap := h.sl.wf.capM
  have hpl := hp.lt
  refine calls_go Try.func40 rfl Try.ntmps40 (Nat.le_of_ble_eq_true rfl) ?_
  repeat (first | refine sp ?_ | (refine is_load ?_; refine ld ?_) | (refine is_store ?_; refine sr ?_) | (refine is_alloc ?_; refine al ?_) | (refine is_box ?_; refine bx ?_) | (refine isl_load ?_; refine ldl ?_) | (refine isl_store ?_; refine srl ?_) | (refine isl_alloc ?_; refine all' ?_) | (refine isl_box ?_; refine bxl ?_) | refine dr Try.follows ?_)
  have hxa : Ext w (w.alloc (.cells Nd.zero.cells.toArray 50)) := (Fr.refl _ _).alloc _
  refine go_call rfl rfl (c_slAllocated _ lo q A i (h.sl.ext hxa) hi) ?_
  rintro r w1 ⟨rfl, hx⟩
  have hx1 := hxa.trans hx
  have h1 := h.ext hx1
  have hloc : At w1 w.heap.size Nd.zero.cells 50 := (At.new w _ _).ext hx
  cases hu : A.used i with
  | false =>
    have e1 : A.nodeOf i = Nd.zero := by simp [AR.nodeOf, hu]
    have e2 : A.read i = A := by simp [AR.read, hu]
    rw [e1, e2]
    unfold Nd.cells Nd.zero at hloc
    repeat (first | refine sp ?_ | (refine is_load ?_; refine ld ?_) | (refine is_store ?_; refine sr ?_) | (refine is_alloc ?_; refine al ?_) | (refine is_box ?_; refine bx ?_) | (refine isl_load ?_; refine ldl ?_) | (refine isl_store ?_; refine srl ?_) | (refine isl_alloc ?_; refine all' ?_) | (refine isl_box ?_; refine bxl ?_) | refine dr Try.follows ?_)
    refine go_ret2 rfl ⟨_, rfl, Ld.run (ld_part (by (repeat (first | assumption | (refine At.new' (by (first | omega | (simp; done) | (simp; omega))) _ _) | apply At.alloc | apply At.drewN | apply At.setRow | (apply At.setRow_neF; first | assumption | (apply Ne.symm; assumption) | omega) | (apply At.extF; assumption)))) rfl rfl)⟩ rfl ⟨_, rfl, rfl, h1.fr (Fr.setRow (Fr.refl (fun b => b = w.heap.size) w1) _ (Or.inl rfl)) ?_, ?_⟩
    · intro b hb e
      have := h.fp_lt b hb
      omega
    · refine Fr.setRow (Fr.of_ext hx1) _ (Or.inr (Nat.le_refl _))
  | true =>
    have hil := used_le h.sl.wf hu
    have e1 : A.nodeOf i = A.node i := by simp [AR.nodeOf, hu]
    have e2 : A.read i = { A with reads := (A.reads + 1) % 18446744073709551616 } := by simp [AR.read, hu]
    rw [e1, e2]
    unfold Nd.cells Nd.zero at hloc
    have hp1 := h1.hp
    unfold arC at hp1
    have hne : q.p ≠ w.heap.size := by omega
    repeat (first | refine sp ?_ | (refine is_load ?_; refine ld ?_) | (refine is_store ?_; refine sr ?_) | (refine is_alloc ?_; refine al ?_) | (refine is_box ?_; refine bx ?_) | (refine isl_load ?_; refine ldl ?_) | (refine isl_store ?_; refine srl ?_) | (refine isl_alloc ?_; refine all' ?_) | (refine isl_box ?_; refine bxl ?_) | refine dr Try.follows ?_)
    have e3 : ([Value.pointer (some ⟨q.s, 0, none⟩), .slice (some ⟨q.nb, 0, none⟩) (A.cap + 1) (A.cap + 1), .slice (some ⟨q.cb, 0, none⟩) (A.cap + 1) (A.cap + 1), .int .u64 (A.reads : Int)].set (0 + 3) (.int .u64 (IntKind.u64.wrap ((A.reads : Int) + 1)))) = arC q A.cap ((A.reads + 1) % 18446744073709551616) := by
      rw [wrap_u64]; rfl
    rw [e3]
    have h2 := h1.setReads ((A.reads + 1) % 18446744073709551616)
    have hl2 := hloc.setRow_ne hne (arC q A.cap ((A.reads + 1) % 18446744073709551616)).toArray
    have hf2 : Fr (fun b => b = q.p) w (w1.setRow q.p (arC q A.cap ((A.reads + 1) % 18446744073709551616)).toArray) := Fr.setRow (Fr.of_ext hx1) _ (Or.inl rfl)
    generalize w1.setRow q.p (arC q A.cap ((A.reads + 1) % 18446744073709551616)).toArray = w2 at *
    refine go_load rfl rfl (node_ld h2.hn (by show i < A.cap + 1; omega)) ?_
    repeat (first | refine sp ?_ | (refine is_load ?_; refine ld ?_) | (refine is_store ?_; refine sr ?_) | (refine is_alloc ?_; refine al ?_) | (refine is_box ?_; refine bx ?_) | (refine isl_load ?_; refine ldl ?_) | (refine isl_store ?_; refine srl ?_) | (refine isl_alloc ?_; refine all' ?_) | (refine isl_box ?_; refine bxl ?_) | refine dr Try.follows ?_)
    refine go_ret2 rfl ⟨_, rfl, Ld.run (ld_part (by (repeat (first | assumption | (refine At.new' (by (first | omega | (simp; done) | (simp; omega))) _ _) | apply At.alloc | apply At.drewN | apply At.setRow | (apply At.setRow_neF; first | assumption | (apply Ne.symm; assumption) | omega) | (apply At.extF; assumption)))) rfl rfl)⟩ rfl ⟨_, rfl, rfl, h2.fr (Fr.setRow (Fr.refl (fun b => b = w.heap.size) w2) _ (Or.inl rfl)) ?_, ?_⟩
    · intro b hb e
      have := h.fp_lt b hb
      omega
    · refine Fr.setRow hf2 _ (Or.inr (Nat.le_refl _))

theorem c_Size (w : World) (lo : Nat) (q : AP) (A : AR) (i : Nat) (h : ArAt w lo q A) (hi : i < 4294967296) :
    Calls Try.prog 19 [.pointer (some ⟨q.p, 0, none⟩), .int .u32 (i : Int)].toArray w (Ret fun r w' => r = .int .i64 (A.sizeOf i) ∧ ArAt w' lo q (A.read i) ∧ Fr (fun b => b = q.p) w w') := by
  have hp := h.hp
  unfold arC at hp
  have hcap := h.sl.wf.capM
  refine calls_go Try.func19 rfl Try.ntmps19 (Nat.le_of_ble_eq_true rfl) ?_
  repeat (first | refine sp ?_ | (refine is_load ?_; refine ld ?_) | (refine is_store ?_; refine sr ?_) | (refine is_alloc ?_; refine al ?_) | (refine is_box ?_; refine bx ?_) | (refine isl_load ?_; refine ldl ?_) | (refine isl_store ?_; refine srl ?_) | (refine isl_alloc ?_; refine all' ?_) | (refine isl_box ?_; refine bxl ?_) | refine dr Try.follows ?_)
  refine go_call rfl rfl (c_slAllocated _ lo q A i h.sl hi) ?_
  rintro r w1 ⟨rfl, hx⟩
  have h1 := h.ext hx
  cases hu : A.used i with
  | false =>
    have e1 : A.sizeOf i = 0 := by simp [AR.sizeOf, hu]
    have e2 : A.read i = A := by simp [AR.read, hu]
    rw [e1, e2]
    repeat (first | refine sp ?_ | (refine is_load ?_; refine ld ?_) | (refine is_store ?_; refine sr ?_) | (refine is_alloc ?_; refine al ?_) | (refine is_box ?_; refine bx ?_) | (refine isl_load ?_; refine ldl ?_) | (refine isl_store ?_; refine srl ?_) | (refine isl_alloc ?_; refine all' ?_) | (refine isl_box ?_; refine bxl ?_) | refine dr Try.follows ?_)
    exact go_ret1 rfl rfl ⟨_, rfl, rfl, h1, Fr.of_ext hx⟩
  | true =>
    have hil := used_le h.sl.wf hu
    have e1 : A.sizeOf i = (A.node i).size := by simp [AR.sizeOf, hu]
    have e2 : A.read i = { A with reads := (A.reads + 1) % 18446744073709551616 } := by simp [AR.read, hu]
    rw [e1, e2]
    have hp1 := h1.hp
    unfold arC at hp1
    repeat (first | refine sp ?_ | (refine is_load ?_; refine ld ?_) | (refine is_store ?_; refine sr ?_) | (refine is_alloc ?_; refine al ?_) | (refine is_box ?_; refine bx ?_) | (refine isl_load ?_; refine ldl ?_) | (refine isl_store ?_; refine srl ?_) | (refine isl_alloc ?_; refine all' ?_) | (refine isl_box ?_; refine bxl ?_) | refine dr Try.follows ?_)
    have e3 : ([Value.pointer (some ⟨q.s, 0, none⟩), .slice (some ⟨q.nb, 0, none⟩) (A.cap + 1) (A.cap + 1), .slice (some ⟨q.cb, 0, none⟩) (A.cap + 1) (A.cap + 1), .int .u64 (A.reads : Int)].set (0 + 3) (.int .u64 (IntKind.u64.wrap ((A.reads : Int) + 1)))) = arC q A.cap ((A.reads + 1) % 18446744073709551616) := by
      rw [wrap_u64]; rfl
    rw [e3]
    have h2 := h1.setReads ((A.reads + 1) % 18446744073709551616)
    have hf2 : Fr (fun b => b = q.p) w (w1.setRow q.p (arC q A.cap ((A.reads + 1) % 18446744073709551616)).toArray) := Fr.setRow (Fr.of_ext hx) _ (Or.inl rfl)
    generalize w1.setRow q.p (arC q A.cap ((A.reads + 1) % 18446744073709551616)).toArray = w2 at *
    have hcell : w2.cell? ⟨q.nb, 0 + i * 8 + 4, none⟩ = some (.int .i64 (A.node i).size) := node_cell h2.hn (by show i < A.cap + 1; omega) rfl
    repeat (first | refine sp ?_ | (refine is_load ?_; refine ld ?_) | (refine is_store ?_; refine sr ?_) | (refine is_alloc ?_; refine al ?_) | (refine is_box ?_; refine bx ?_) | (refine isl_load ?_; refine ldl ?_) | (refine isl_store ?_; refine srl ?_) | (refine isl_alloc ?_; refine all' ?_) | (refine isl_box ?_; refine bxl ?_) | refine dr Try.follows ?_)
    exact go_ret1 rfl rfl ⟨_, rfl, rfl, h2, hf2⟩

theorem cnt_cell {w : World} {lo : Nat} {q : AP} {A : AR} (h : ArAt w lo q A) {i : Nat} (hi : i ≤ A.cap) : w.cell? ⟨q.cb, 0 + i, none⟩ = some (.int .i64 (A.cnt i)) := by
  rw [Nat.zero_add]; exact h.hc.cell (one_get (f := fun i => Value.int .i64 (A.cnt i)) (by omega))

def AR.countOf (A : AR) (i : Nat) : Int := if A.used i = true then A.cnt i else 0

theorem c_Count (w : World) (lo : Nat) (q : AP) (A : AR) (i : Nat) (h : ArAt w lo q A) (hi : i < 4294967296) :
    Calls Try.prog 52 [.pointer (some ⟨q.p, 0, none⟩), .int .u32 (i : Int)].toArray w (Ret fun r w' => r = .int .i64 (A.countOf i) ∧ Ext w w') := by
  have hp := h.hp
  unfold arC at hp
  have hcap := h.sl.wf.capM
  refine calls_go Try.func52 rfl Try.ntmps52 (Nat.le_of_ble_eq_true rfl) ?_
  repeat (first | refine sp ?_ | (refine is_load ?_; refine ld ?_) | (refine is_store ?_; refine sr ?_) | (refine is_alloc ?_; refine al ?_) | (refine is_box ?_; refine bx ?_) | (refine isl_load ?_; refine ldl ?_) | (refine isl_store ?_; refine srl ?_) | (refine isl_alloc ?_; refine all' ?_) | (refine isl_box ?_; refine bxl ?_) | refine dr Try.follows ?_)
  refine go_call rfl rfl (c_slAllocated _ lo q A i h.sl hi) ?_
  rintro r w1 ⟨rfl, hx⟩
  have h1 := h.ext hx
  cases hu : A.used i with
  | false =>
    have e1 : A.countOf i = 0 := by simp [AR.countOf, hu]
    rw [e1]
    repeat (first | refine sp ?_ | (refine is_load ?_; refine ld ?_) | (refine is_store ?_; refine sr ?_) | (refine is_alloc ?_; refine al ?_) | (refine is_box ?_; refine bx ?_) | (refine isl_load ?_; refine ldl ?_) | (refine isl_store ?_; refine srl ?_) | (refine isl_alloc ?_; refine all' ?_) | (refine isl_box ?_; refine bxl ?_) | refine dr Try.follows ?_)
    exact go_ret1 rfl rfl ⟨_, rfl, rfl, hx⟩
  | true =>
    have hil := used_le h.sl.wf hu
    have e1 : A.countOf i = A.cnt i := by simp [AR.countOf, hu]
    rw [e1]
    have hp1 := h1.hp
    unfold arC at hp1
    have hc := cnt_cell h1 hil.2
    repeat (first | refine sp ?_ | (refine is_load ?_; refine ld ?_) | (refine is_store ?_; refine sr ?_) | (refine is_alloc ?_; refine al ?_) | (refine is_box ?_; refine bx ?_) | (refine isl_load ?_; refine ldl ?_) | (refine isl_store ?_; refine srl ?_) | (refine isl_alloc ?_; refine all' ?_) | (refine isl_box ?_; refine bxl ?_) | refine dr Try.follows ?_)
    exact go_ret1 rfl rfl ⟨_, rfl, rfl, by (repeat (first | exact Fr.refl _ _ | assumption | apply Fr.drewN | apply Fr.alloc | (apply Fr.transF; assumption) | (refine Fr.setRow ?_ _ (by first | exact Or.inr (by (first | omega | (simp; done) | (simp; omega))) | (exact Or.inl (by first | assumption | (simp; done)))))))⟩

def AR.genOf (A : AR) (i : Nat) : Nat := if i ≤ A.cap then A.gen i else 0

theorem c_Generation (w : World) (lo : Nat) (q : AP) (A : AR) (i : Nat) (h : ArAt w lo q A) (hi : i < 4294967296) :
    Calls Try.prog 53 [.pointer (some ⟨q.p, 0, none⟩), .int .u32 (i : Int)].toArray w (Ret fun r w' => r = .int .u32 (A.genOf i : Int) ∧ Ext w w') := by
  have hp := h.hp
  unfold arC at hp
  refine calls_go Try.func53 rfl Try.ntmps53 (Nat.le_of_ble_eq_true rfl) ?_
  repeat (first | refine sp ?_ | (refine is_load ?_; refine ld ?_) | (refine is_store ?_; refine sr ?_) | (refine is_alloc ?_; refine al ?_) | (refine is_box ?_; refine bx ?_) | (refine isl_load ?_; refine ldl ?_) | (refine isl_store ?_; refine srl ?_) | (refine isl_alloc ?_; refine all' ?_) | (refine isl_box ?_; refine bxl ?_) | refine dr Try.follows ?_)
  refine go_call rfl rfl (c_slGeneration _ lo q A i h.sl hi) ?_
  rintro r w1 ⟨rfl, hx⟩
  repeat (first | refine sp ?_ | (refine is_load ?_; refine ld ?_) | (refine is_store ?_; refine sr ?_) | (refine is_alloc ?_; refine al ?_) | (refine is_box ?_; refine bx ?_) | (refine isl_load ?_; refine ldl ?_) | (refine isl_store ?_; refine srl ?_) | (refine isl_alloc ?_; refine all' ?_) | (refine isl_box ?_; refine bxl ?_) | refine dr Try.follows ?_)
  exact go_ret1 rfl rfl ⟨_, rfl, rfl, hx⟩

theorem c_Free (w : World) (lo : Nat) (q : AP) (A : AR) (h : ArAt w lo q A) :
    Calls Try.prog 18 [.pointer (some ⟨q.p, 0, none⟩)].toArray w (Ret fun r w' => r = .int .i64 (A.free : Int) ∧ Ext w w') := by
  have hp := h.hp
  unfold arC at hp
  refine calls_go Try.func18 rfl Try.ntmps18 (Nat.le_of_ble_eq_true rfl) ?_
  repeat (first | refine sp ?_ | (refine is_load ?_; refine ld ?_) | (refine is_store ?_; refine sr ?_) | (refine is_alloc ?_; refine al ?_) | (refine is_box ?_; refine bx ?_) | (refine isl_load ?_; refine ldl ?_) | (refine isl_store ?_; refine srl ?_) | (refine isl_alloc ?_; refine all' ?_) | (refine isl_box ?_; refine bxl ?_) | refine dr Try.follows ?_)
  refine go_call rfl rfl (c_slFree _ lo q A h.sl) ?_
  rintro r w1 ⟨rfl, hx⟩
  repeat (first | refine sp ?_ | (refine is_load ?_; refine ld ?_) | (refine is_store ?_; refine sr ?_) | (refine is_alloc ?_; refine al ?_) | (refine is_box ?_; refine bx ?_) | (refine isl_load ?_; refine ldl ?_) | (refine isl_store ?_; refine srl ?_) | (refine isl_alloc ?_; refine all' ?_) | (refine isl_box ?_; refine bxl ?_) | refine dr Try.follows ?_)
  exact go_ret1 rfl rfl ⟨_, rfl, rfl, hx⟩

theorem c_Capacity (w : World) (lo : Nat) (q : AP) (A : AR) (h : ArAt w lo q A) :
    Calls Try.prog 33 [.pointer (some ⟨q.p, 0, none⟩)].toArray w (Ret fun r w' => r = .int .i64 (A.cap : Int) ∧ w' = w) := by
  have hp := h.hp
  unfold arC at hp
  refine calls_go Try.func33 rfl Try.ntmps33 (Nat.le_of_ble_eq_true rfl) ?_
  repeat (first | refine sp ?_ | (refine is_load ?_; refine ld ?_) | (refine is_store ?_; refine sr ?_) | (refine is_alloc ?_; refine al ?_) | (refine is_box ?_; refine bx ?_) | (refine isl_load ?_; refine ldl ?_) | (refine isl_store ?_; refine srl ?_) | (refine isl_alloc ?_; refine all' ?_) | (refine isl_box ?_; refine bxl ?_) | refine dr Try.follows ?_)
  refine go_call rfl rfl (c_slCapacity _ lo q A h.sl) ?_
  rintro r w1 ⟨rfl, rfl⟩
  repeat (first | refine sp ?_ | (refine is_load ?_; refine ld ?_) | (refine is_store ?_; refine sr ?_) | (refine is_alloc ?_; refine al ?_) | (refine is_box ?_; refine bx ?_) | (refine isl_load ?_; refine ldl ?_) | (refine isl_store ?_; refine srl ?_) | (refine isl_alloc ?_; refine all' ?_) | (refine isl_box ?_; refine bxl ?_) | refine dr Try.follows ?_)
  exact go_ret1 rfl rfl ⟨_, rfl, rfl, rfl⟩

theorem c_Reads (w : World) (lo : Nat) (q : AP) (A : AR) (h : ArAt w lo q A) :
    Calls Try.prog 34 [.pointer (some ⟨q.p, 0, none⟩)].toArray w (Ret fun r w' => r = .int .u64 (A.reads : Int) ∧ w' = w) := by
  have hp := h.hp
  unfold arC at hp
  refine calls_go Try.func34 rfl Try.ntmps34 (Nat.le_of_ble_eq_true rfl) ?_
  repeat (first | refine sp ?_ | (refine is_load ?_; refine ld ?_) | (refine is_store ?_; refine sr ?_) | (refine is_alloc ?_; refine al ?_) | (refine is_box ?_; refine bx ?_) | (refine isl_load ?_; refine ldl ?_) | (refine isl_store ?_; refine srl ?_) | (refine isl_alloc ?_; refine all' ?_) | (refine isl_box ?_; refine bxl ?_) | refine dr Try.follows ?_)
  exact go_ret1 rfl rfl ⟨_, rfl, rfl, rfl⟩

def AR.retain (A : AR) (i : Nat) : AR := if i ≠ 0 ∧ A.used i = true then A.inc i else A
def AR.retainE (A : AR) (i : Nat) : Int := if i = 0 ∨ A.used i = true then 0 else 3

theorem c_Retain (w : World) (lo : Nat) (q : AP) (A : AR) (i : Nat) (h : ArAt w lo q A) (hi : i < 4294967296) :
    Calls Try.prog 45 [.pointer (some ⟨q.p, 0, none⟩), .int .u32 (i : Int)].toArray w (Ret fun r w' => r = .int .i64 (A.retainE i) ∧ ArAt w' lo q (A.retain i) ∧ Fr (fun b => b = q.cb) w w') := by
  have hp := h.hp
  unfold arC at hp
  have hcap := h.sl.wf.capM
  refine calls_go Try.func45 rfl Try.ntmps45 (Nat.le_of_ble_eq_true rfl) ?_
  by_cases h0 : i = 0
  · subst h0
    have e1 : A.retainE 0 = 0 := by simp [AR.retainE]
    have e2 : A.retain 0 = A := by simp [AR.retain]
    rw [e1, e2]
    repeat (first | refine sp ?_ | (refine is_load ?_; refine ld ?_) | (refine is_store ?_; refine sr ?_) | (refine is_alloc ?_; refine al ?_) | (refine is_box ?_; refine bx ?_) | (refine isl_load ?_; refine ldl ?_) | (refine isl_store ?_; refine srl ?_) | (refine isl_alloc ?_; refine all' ?_) | (refine isl_box ?_; refine bxl ?_) | refine dr Try.follows ?_)
    exact go_ret1 rfl rfl ⟨_, rfl, rfl, h, Fr.refl _ _⟩
  repeat (first | refine sp ?_ | (refine is_load ?_; refine ld ?_) | (refine is_store ?_; refine sr ?_) | (refine is_alloc ?_; refine al ?_) | (refine is_box ?_; refine bx ?_) | (refine isl_load ?_; refine ldl ?_) | (refine isl_store ?_; refine srl ?_) | (refine isl_alloc ?_; refine all' ?_) | (refine isl_box ?_; refine bxl ?_) | refine dr Try.follows ?_)
  refine go_call rfl rfl (c_slAllocated _ lo q A i h.sl hi) ?_
  rintro r w1 ⟨rfl, hx⟩
  have h1 := h.ext hx
  cases hu : A.used i with
  | false =>
    have e1 : A.retainE i = 3 := by simp [AR.retainE, hu, h0]
    have e2 : A.retain i = A := by simp [AR.retain, hu]
    rw [e1, e2]
    repeat (first | refine sp ?_ | (refine is_load ?_; refine ld ?_) | (refine is_store ?_; refine sr ?_) | (refine is_alloc ?_; refine al ?_) | (refine is_box ?_; refine bx ?_) | (refine isl_load ?_; refine ldl ?_) | (refine isl_store ?_; refine srl ?_) | (refine isl_alloc ?_; refine all' ?_) | (refine isl_box ?_; refine bxl ?_) | refine dr Try.follows ?_)
    exact go_ret1 rfl rfl ⟨_, rfl, rfl, h1, Fr.of_ext hx⟩
  | true =>
    have hil := used_le h.sl.wf hu
    have e1 : A.retainE i = 0 := by simp [AR.retainE, hu]
    have e2 : A.retain i = A.inc i := by simp [AR.retain, hu, h0]
    rw [e1, e2]
    have hp1 := h1.hp
    unfold arC at hp1
    have hc1 := h1.hc
    have hcl : (cellsF (fun i => [Value.int .i64 (A.cnt i)]) (A.cap + 1))[0 + i]? = some (.int .i64 (A.cnt i)) := by
      rw [Nat.zero_add]; exact one_get (f := fun i => Value.int .i64 (A.cnt i)) (by omega)
    repeat (first | refine sp ?_ | (refine is_load ?_; refine ld ?_) | (refine is_store ?_; refine sr ?_) | (refine is_alloc ?_; refine al ?_) | (refine is_box ?_; refine bx ?_) | (refine isl_load ?_; refine ldl ?_) | (refine isl_store ?_; refine srl ?_) | (refine isl_alloc ?_; refine all' ?_) | (refine isl_box ?_; refine bxl ?_) | refine dr Try.follows ?_)
    have es : (cellsF (fun i => [Value.int .i64 (A.cnt i)]) (A.cap + 1)).set (0 + i) (.int .i64 (IntKind.i64.wrap (A.cnt i + 1))) = cellsF (fun j => [Value.int .i64 ((A.inc i).cnt j)]) (A.cap + 1) := by
      rw [Nat.zero_add]; exact one_set' (Value.int .i64) A.cnt (by omega)
    rw [es]
    exact go_ret1 rfl rfl ⟨_, rfl, rfl, h1.setCnt _, Fr.setRow (Fr.of_ext hx) _ (Or.inl rfl)⟩

theorem c_NewBad (n : Int) (w : World) (hn : n < 1 ∨ 65536 < n) :
    Calls Try.prog 15 [.int .i64 n].toArray w (Ret fun r w' => r = .tuple #[.pointer none, .int .i64 1] ∧ w' = w) := by
  refine calls_go Try.func15 rfl Try.ntmps15 (Nat.le_of_ble_eq_true rfl) ?_
  repeat (first | refine sp ?_ | (refine is_load ?_; refine ld ?_) | (refine is_store ?_; refine sr ?_) | (refine is_alloc ?_; refine al ?_) | (refine is_box ?_; refine bx ?_) | (refine isl_load ?_; refine ldl ?_) | (refine isl_store ?_; refine srl ?_) | (refine isl_alloc ?_; refine all' ?_) | (refine isl_box ?_; refine bxl ?_) | refine dr Try.follows ?_)
  refine go_call rfl rfl (c_slNewBad n w hn) ?_
  rintro r w1 ⟨rfl, rfl⟩
  repeat (first | refine sp ?_ | (refine is_load ?_; refine ld ?_) | (refine is_store ?_; refine sr ?_) | (refine is_alloc ?_; refine al ?_) | (refine is_box ?_; refine bx ?_) | (refine isl_load ?_; refine ldl ?_) | (refine isl_store ?_; refine srl ?_) | (refine isl_alloc ?_; refine all' ?_) | (refine isl_box ?_; refine bxl ?_) | refine dr Try.follows ?_)
  exact go_ret2 rfl rfl rfl ⟨_, rfl, rfl, rfl⟩

end Go.Proofs.Ytapocbahkeoeoaa
