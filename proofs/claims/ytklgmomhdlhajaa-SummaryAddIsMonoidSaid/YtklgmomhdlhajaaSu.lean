/-
  The summaries: of one value, of two together, of a tree, of its parts from and to a key.
-/
import Derived.Test.YtklgmomhdlhajaaRr
set_option linter.unusedVariables false
namespace Go.Proofs.Ytklgmomhdlhajaa
open Go.Vc

theorem c_one (v : Int) (w : World) : Calls Try.prog 47 [.int .i64 v].toArray w (Ret fun r w' => r = .agg ⟨(Sm.one v).cells⟩ ∧ Ext w w') := by
  refine calls_go Try.func47 rfl Try.ntmps47 (Nat.le_of_ble_eq_true rfl) ?_
  repeat (first | refine sp ?_ | (refine is_load ?_; refine ld ?_) | (refine is_store ?_; refine sr ?_) | (refine is_alloc ?_; refine al ?_) | (refine is_box ?_; refine bx ?_) | (refine isl_load ?_; refine ldl ?_) | (refine isl_store ?_; refine srl ?_) | (refine isl_alloc ?_; refine all' ?_) | (refine isl_box ?_; refine bxl ?_) | refine dr Try.follows ?_)
  exact go_ret1 rfl ⟨_, rfl, Ld.run (ld_part (by (repeat (first | assumption | (refine At.new' (by (first | omega | (simp; done) | (simp; omega))) _ _) | apply At.alloc | apply At.drewN | apply At.setRow | (apply At.setRow_neF; first | assumption | (apply Ne.symm; assumption) | omega) | (apply At.extF; assumption)))) rfl rfl)⟩ ⟨_, rfl, rfl, by (repeat (first | exact Fr.refl _ _ | assumption | apply Fr.drewN | apply Fr.alloc | (apply Fr.transF; assumption) | (refine Fr.setRow ?_ _ (by first | exact Or.inr (by (first | omega | (simp; done) | (simp; omega))) | (exact Or.inl (by first | assumption | (simp; done)))))))⟩

theorem c_SAdd (x y : Sm) (w : World) (hx : 0 ≤ x.n ∧ x.n ≤ 1125899906842624) (hy : 0 ≤ y.n ∧ y.n ≤ 1125899906842624) :
    Calls Try.prog 15 [.agg ⟨x.cells⟩, .agg ⟨y.cells⟩].toArray w (Ret fun r w' => r = .agg ⟨(x.add y).cells⟩ ∧ Ext w w') := by
  unfold Sm.cells
  refine calls_go Try.func15 rfl Try.ntmps15 (Nat.le_of_ble_eq_true rfl) ?_
  by_cases e1 : x.n = 0
  · repeat (first | refine sp ?_ | (refine is_load ?_; refine ld ?_) | (refine is_store ?_; refine sr ?_) | (refine is_alloc ?_; refine al ?_) | (refine is_box ?_; refine bx ?_) | (refine isl_load ?_; refine ldl ?_) | (refine isl_store ?_; refine srl ?_) | (refine isl_alloc ?_; refine all' ?_) | (refine isl_box ?_; refine bxl ?_) | refine dr Try.follows ?_)
    refine go_ret1 rfl ⟨_, rfl, Ld.run (ld_part (by (repeat (first | assumption | (refine At.new' (by (first | omega | (simp; done) | (simp; omega))) _ _) | apply At.alloc | apply At.drewN | apply At.setRow | (apply At.setRow_neF; first | assumption | (apply Ne.symm; assumption) | omega) | (apply At.extF; assumption)))) rfl rfl)⟩ ⟨_, rfl, ?_, by (repeat (first | exact Fr.refl _ _ | assumption | apply Fr.drewN | apply Fr.alloc | (apply Fr.transF; assumption) | (refine Fr.setRow ?_ _ (by first | exact Or.inr (by (first | omega | (simp; done) | (simp; omega))) | (exact Or.inl (by first | assumption | (simp; done)))))))⟩
    unfold Sm.add; rw [if_pos e1]
  by_cases e2 : y.n = 0
  · repeat (first | refine sp ?_ | (refine is_load ?_; refine ld ?_) | (refine is_store ?_; refine sr ?_) | (refine is_alloc ?_; refine al ?_) | (refine is_box ?_; refine bx ?_) | (refine isl_load ?_; refine ldl ?_) | (refine isl_store ?_; refine srl ?_) | (refine isl_alloc ?_; refine all' ?_) | (refine isl_box ?_; refine bxl ?_) | refine dr Try.follows ?_)
    refine go_ret1 rfl ⟨_, rfl, Ld.run (ld_part (by (repeat (first | assumption | (refine At.new' (by (first | omega | (simp; done) | (simp; omega))) _ _) | apply At.alloc | apply At.drewN | apply At.setRow | (apply At.setRow_neF; first | assumption | (apply Ne.symm; assumption) | omega) | (apply At.extF; assumption)))) rfl rfl)⟩ ⟨_, rfl, ?_, by (repeat (first | exact Fr.refl _ _ | assumption | apply Fr.drewN | apply Fr.alloc | (apply Fr.transF; assumption) | (refine Fr.setRow ?_ _ (by first | exact Or.inr (by (first | omega | (simp; done) | (simp; omega))) | (exact Or.inl (by first | assumption | (simp; done)))))))⟩
    unfold Sm.add; rw [if_neg e1, if_pos e2]
  · repeat (first | refine sp ?_ | (refine is_load ?_; refine ld ?_) | (refine is_store ?_; refine sr ?_) | (refine is_alloc ?_; refine al ?_) | (refine is_box ?_; refine bx ?_) | (refine isl_load ?_; refine ldl ?_) | (refine isl_store ?_; refine srl ?_) | (refine isl_alloc ?_; refine all' ?_) | (refine isl_box ?_; refine bxl ?_) | refine dr Try.follows ?_)
    refine go_ret1 rfl ⟨_, rfl, Ld.run (ld_part (by (repeat (first | assumption | (refine At.new' (by (first | omega | (simp; done) | (simp; omega))) _ _) | apply At.alloc | apply At.drewN | apply At.setRow | (apply At.setRow_neF; first | assumption | (apply Ne.symm; assumption) | omega) | (apply At.extF; assumption)))) rfl rfl)⟩ ⟨_, rfl, ?_, by (repeat (first | exact Fr.refl _ _ | assumption | apply Fr.drewN | apply Fr.alloc | (apply Fr.transF; assumption) | (refine Fr.setRow ?_ _ (by first | exact Or.inr (by (first | omega | (simp; done) | (simp; omega))) | (exact Or.inl (by first | assumption | (simp; done)))))))⟩
    rw [Sm.add_pos e1 e2, min_if, max_if]; rfl

set_option maxHeartbeats 1000000 in
theorem c_tree (w : World) (lo p : Nat) (q : AP) (A : AR) (t : Tr) (ha : ArP w lo p q A) (hi : InA A t) (he : InE t.ents) (hs : t.sz ≤ 2147483647) (hr : t.root < 4294967296) :
    Calls Try.prog 46 [ptr p, .int .u32 (t.root : Int)].toArray w (Ret (RdR w lo p q A 1 (.agg ⟨(smy t.vals).cells⟩))) := by
  have hpl := ha.lt p ha.fpp
  refine calls_go Try.func46 rfl Try.ntmps46 (Nat.le_of_ble_eq_true rfl) ?_
  repeat (first | refine sp ?_ | (refine is_load ?_; refine ld ?_) | (refine is_store ?_; refine sr ?_) | (refine is_alloc ?_; refine al ?_) | (refine is_box ?_; refine bx ?_) | (refine isl_load ?_; refine ldl ?_) | (refine isl_store ?_; refine srl ?_) | (refine isl_alloc ?_; refine all' ?_) | (refine isl_box ?_; refine bxl ?_) | refine dr Try.follows ?_)
  refine go_call rfl rfl (p_Node _ lo p q A t.root (ha.ext (by (repeat (first | exact Fr.refl _ _ | assumption | apply Fr.drewN | apply Fr.alloc | (apply Fr.transF; assumption) | (refine Fr.setRow ?_ _ (by first | exact Or.inr (by (first | omega | (simp; done) | (simp; omega))) | (exact Or.inl (by first | assumption | (simp; done))))))))) hr) ?_
  rintro _ w1 ⟨rfl, ha1, hf1⟩
  have hF : Fr (fun b => b = p) w w1 := Fr.trans ((Fr.refl _ _).alloc _) hf1
  have hret : At w1 w.heap.size [.int .i64 0, .int .i64 0, .int .i64 0, .int .i64 0] 23 := At.fr (At.new _ _ _) hf1 (by omega)
  have hl1 := hf1.size
  simp at hl1
  cases t with
  | nil =>
    rw [show A.used (Tr.nil).root = false from ha.wf.u0, show A.nodeOf (Tr.nil).root = Nd.zero by unfold AR.nodeOf; rw [if_neg (by rw [show A.used (Tr.nil).root = false from ha.wf.u0]; decide)]]
    unfold Nd.zero Nd.cells
    repeat (first | refine sp ?_ | (refine is_load ?_; refine ld ?_) | (refine is_store ?_; refine sr ?_) | (refine is_alloc ?_; refine al ?_) | (refine is_box ?_; refine bx ?_) | (refine isl_load ?_; refine ldl ?_) | (refine isl_store ?_; refine srl ?_) | (refine isl_alloc ?_; refine all' ?_) | (refine isl_box ?_; refine bxl ?_) | refine dr Try.follows ?_)
    exact go_ret1 rfl ⟨_, rfl, Ld.run (ld_part (by (repeat (first | assumption | (refine At.new' (by (first | omega | (simp; done) | (simp; omega))) _ _) | apply At.alloc | apply At.drewN | apply At.setRow | (apply At.setRow_neF; first | assumption | (apply Ne.symm; assumption) | omega) | (apply At.extF; assumption)))) rfl rfl)⟩ ⟨_, rfl, RdR.fin rfl ha ha1 (Rds.read A _) hF (by (repeat (first | exact Fr.refl _ _ | assumption | apply Fr.drewN | apply Fr.alloc | (apply Fr.transF; assumption) | (refine Fr.setRow ?_ _ (by first | exact Or.inr (by (first | omega | (simp; done) | (simp; omega))) | (exact Or.inl (by first | assumption | (simp; done))))))))⟩
  | nd i l k v r =>
    rw [show A.used (Tr.nd i l k v r).root = true from hi.2.1, show (A.nodeOf (Tr.nd i l k v r).root).cells = _ from hi.nodeL he hs]
    generalize smy (Tr.nd i l k v r).vals = S
    repeat (first | refine sp ?_ | (refine is_load ?_; refine ld ?_) | (refine is_store ?_; refine sr ?_) | (refine is_alloc ?_; refine al ?_) | (refine is_box ?_; refine bx ?_) | (refine isl_load ?_; refine ldl ?_) | (refine isl_store ?_; refine srl ?_) | (refine isl_alloc ?_; refine all' ?_) | (refine isl_box ?_; refine bxl ?_) | refine dr Try.follows ?_)
    exact go_ret1 rfl ⟨_, rfl, Ld.run (ld_part (by (repeat (first | assumption | (refine At.new' (by (first | omega | (simp; done) | (simp; omega))) _ _) | apply At.alloc | apply At.drewN | apply At.setRow | (apply At.setRow_neF; first | assumption | (apply Ne.symm; assumption) | omega) | (apply At.extF; assumption)))) rfl rfl)⟩ ⟨_, rfl, RdR.fin rfl ha ha1 (Rds.read A _) hF (by (repeat (first | exact Fr.refl _ _ | assumption | apply Fr.drewN | apply Fr.alloc | (apply Fr.transF; assumption) | (refine Fr.setRow ?_ _ (by first | exact Or.inr (by (first | omega | (simp; done) | (simp; omega))) | (exact Or.inl (by first | assumption | (simp; done))))))))⟩

def fromP (x : Int) (e : Int × Int) : Bool := decide (x ≤ e.1)
def toP (x : Int) (e : Int × Int) : Bool := decide (e.1 ≤ x)

set_option maxHeartbeats 4000000 in
theorem c_from (w : World) (lo p : Nat) (q : AP) (A : AR) (t : Tr) (x : Int) (ha : ArP w lo p q A) (hi : InA A t) (he : InE t.ents) (ho : Srt t.ents) (hs : t.sz ≤ 1000000) (hr : t.root < 4294967296) :
    Calls Try.prog 49 [ptr p, .int .u32 (t.root : Int), .int .i64 x].toArray w (Ret (RdR w lo p q A (2 * t.ht) (.agg ⟨(smF (fromP x) t.ents).cells⟩))) := by
  refine calls_go Try.func49 rfl Try.ntmps49 (Nat.le_of_ble_eq_true rfl) ?_
  have hpl := ha.lt p ha.fpp
  repeat (first | refine sp ?_ | (refine is_load ?_; refine ld ?_) | (refine is_store ?_; refine sr ?_) | (refine is_alloc ?_; refine al ?_) | (refine is_box ?_; refine bx ?_) | (refine isl_load ?_; refine ldl ?_) | (refine isl_store ?_; refine srl ?_) | (refine isl_alloc ?_; refine all' ?_) | (refine isl_box ?_; refine bxl ?_) | refine dr Try.follows ?_)
  refine go_loop (G := Tr × Sm × AR) [1] (fun ⟨t', _, _⟩ => [.int .u32 (t'.root : Int)]) [(0, ptr p), (2, .int .i64 x), (6, ptr w.heap.size), (7, ptr (w.heap.size + 1))]
    (fun ⟨t', s, B⟩ w' => InA B t' ∧ InE t'.ents ∧ Srt t'.ents ∧ s.ok ∧ s.add (smF (fromP x) t'.ents) = smF (fromP x) t.ents ∧ s.n + t'.sz ≤ t.sz ∧ t'.ht ≤ t.ht ∧ t'.root < 4294967296 ∧ Rds A B (2 * (t.ht - t'.ht)) ∧ ArP w' lo p q B ∧ Fr (fun b => b = p) w w' ∧
      At w' w.heap.size [.int .i64 0, .int .i64 0, .int .i64 0, .int .i64 0] 23 ∧ At w' (w.heap.size + 1) s.cells 23 ∧ w.heap.size + 2 ≤ w'.heap.size)
    (fun g => g.1.sz) (t, Sm.zero, A) rfl ⟨rfl, rfl, rfl, rfl, trivial⟩
    ⟨hi, he, ho, Sm.zero_ok, Sm.zero_add _, by simp [Sm.zero], Nat.le_refl _, hr, Rds.refl _ _, ha.ext (by (repeat (first | exact Fr.refl _ _ | assumption | apply Fr.drewN | apply Fr.alloc | (apply Fr.transF; assumption) | (refine Fr.setRow ?_ _ (by first | exact Or.inr (by (first | omega | (simp; done) | (simp; omega))) | (exact Or.inl (by first | assumption | (simp; done)))))))), by (repeat (first | exact Fr.refl _ _ | assumption | apply Fr.drewN | apply Fr.alloc | (apply Fr.transF; assumption) | (refine Fr.setRow ?_ _ (by first | exact Or.inr (by (first | omega | (simp; done) | (simp; omega))) | (exact Or.inl (by first | assumption | (simp; done))))))), by (repeat (first | assumption | (refine At.new' (by (first | omega | (simp; done) | (simp; omega))) _ _) | apply At.alloc | apply At.drewN | apply At.setRow | (apply At.setRow_neF; first | assumption | (apply Ne.symm; assumption) | omega) | (apply At.extF; assumption))), by show At _ _ [.int .i64 0, .int .i64 0, .int .i64 0, .int .i64 0] _; (repeat (first | assumption | (refine At.new' (by (first | omega | (simp; done) | (simp; omega))) _ _) | apply At.alloc | apply At.drewN | apply At.setRow | (apply At.setRow_neF; first | assumption | (apply Ne.symm; assumption) | omega) | (apply At.extF; assumption))), by simp⟩ ?_
  rintro ⟨t', s, B⟩ w1 ⟨hi1, he1, ho1, hs1, hsum, hn1, hht, hr1, hB, ha1, hF1, hat0, hat1, hl1⟩
  unfold Sm.cells at hat1
  cases t' with
  | nil =>
    repeat (first | refine sp ?_ | (refine is_load ?_; refine ld ?_) | (refine is_store ?_; refine sr ?_) | (refine is_alloc ?_; refine al ?_) | (refine is_box ?_; refine bx ?_) | (refine isl_load ?_; refine ldl ?_) | (refine isl_store ?_; refine srl ?_) | (refine isl_alloc ?_; refine all' ?_) | (refine isl_box ?_; refine bxl ?_))
    refine go_ret1 rfl ⟨_, rfl, Ld.run (ld_part (by (repeat (first | assumption | (refine At.new' (by (first | omega | (simp; done) | (simp; omega))) _ _) | apply At.alloc | apply At.drewN | apply At.setRow | (apply At.setRow_neF; first | assumption | (apply Ne.symm; assumption) | omega) | (apply At.extF; assumption)))) rfl rfl)⟩ ⟨_, rfl, RdR.fin ?_ ha ha1 (hB.mono (by omega)) hF1 (by (repeat (first | exact Fr.refl _ _ | assumption | apply Fr.drewN | apply Fr.alloc | (apply Fr.transF; assumption) | (refine Fr.setRow ?_ _ (by first | exact Or.inr (by (first | omega | (simp; done) | (simp; omega))) | (exact Or.inl (by first | assumption | (simp; done))))))))⟩
    rw [← hsum, show smF (fromP x) (Tr.nil).ents = Sm.zero from rfl, Sm.add_zero hs1]; rfl
  | nd i l k v r =>
    have h0 : i ≠ 0 := by have := hi1.1; omega
    have hrr : (Tr.nd i l k v r).root = i := rfl
    rw [hrr] at hr1
    refine go_as 1 (u' := .int .u32 (i : Int)) rfl rfl ?_
    obtain ⟨hel, her, hkk, hvv⟩ := he1.nd
    obtain ⟨hol, hor, hlt, hgt⟩ := ho1.nd
    have hsz : (Tr.nd i l k v r).sz = l.sz + 1 + r.sz := rfl
    have hhd : (Tr.nd i l k v r).ht = 1 + max l.ht r.ht := rfl
    have hcap := ha1.wf.capM
    have hlr : l.root < 4294967296 ∧ r.root < 4294967296 := by
      constructor
      · rcases hi1.2.2.2.1.or with e | e
        · omega
        · have := used_le ha1.wf e; omega
      · rcases hi1.2.2.2.2.or with e | e
        · omega
        · have := used_le ha1.wf e; omega
    have hnd := smF_nd (p := fromP x) he1
    repeat (first | refine sp ?_ | (refine is_load ?_; refine ld ?_) | (refine is_store ?_; refine sr ?_) | (refine is_alloc ?_; refine al ?_) | (refine is_box ?_; refine bx ?_) | (refine isl_load ?_; refine ldl ?_) | (refine isl_store ?_; refine srl ?_) | (refine isl_alloc ?_; refine all' ?_) | (refine isl_box ?_; refine bxl ?_) | refine dr Try.follows ?_)
    refine go_call rfl rfl (p_Node _ lo p q B i ha1 hr1) ?_
    rintro _ w2 ⟨rfl, ha2, hf2⟩
    have hsn := hs1.n0
    rw [show B.used i = true from hi1.2.1, hi1.nodeL he1 (by omega)]
    generalize smy (Tr.nd i l k v r).vals = S
    have hat0' := hat0.fr hf2 (by omega)
    have hat1' := hat1.fr hf2 (by omega)
    have hl2 := hf2.size
    have hi2 := hi1.read i
    by_cases hc : k < x
    · repeat (first | refine sp ?_ | (refine is_load ?_; refine ld ?_) | (refine is_store ?_; refine sr ?_) | (refine is_alloc ?_; refine al ?_) | (refine is_box ?_; refine bx ?_) | (refine isl_load ?_; refine ldl ?_) | (refine isl_store ?_; refine srl ?_) | (refine isl_alloc ?_; refine all' ?_) | (refine isl_box ?_; refine bxl ?_) | refine dr Try.follows ?_)
      refine go_stop (G := Tr × Sm × AR) (r, s, B.read i) rfl ⟨rfl, rfl, rfl, rfl, trivial⟩ ⟨hi2.2.2.2.2, her, hor, hs1, ?_, by omega, by omega, hlr.2, (hB.trans (Rds.read B i)).mono (by omega), ha2.ext (by (repeat (first | exact Fr.refl _ _ | assumption | apply Fr.drewN | apply Fr.alloc | (apply Fr.transF; assumption) | (refine Fr.setRow ?_ _ (by first | exact Or.inr (by (first | omega | (simp; done) | (simp; omega))) | (exact Or.inl (by first | assumption | (simp; done)))))))), (hF1.trans hf2).trans (by (repeat (first | exact Fr.refl _ _ | assumption | apply Fr.drewN | apply Fr.alloc | (apply Fr.transF; assumption) | (refine Fr.setRow ?_ _ (by first | exact Or.inr (by (first | omega | (simp; done) | (simp; omega))) | (exact Or.inl (by first | assumption | (simp; done)))))))), by (repeat (first | assumption | (refine At.new' (by (first | omega | (simp; done) | (simp; omega))) _ _) | apply At.alloc | apply At.drewN | apply At.setRow | (apply At.setRow_neF; first | assumption | (apply Ne.symm; assumption) | omega) | (apply At.extF; assumption))), by unfold Sm.cells; (repeat (first | assumption | (refine At.new' (by (first | omega | (simp; done) | (simp; omega))) _ _) | apply At.alloc | apply At.drewN | apply At.setRow | (apply At.setRow_neF; first | assumption | (apply Ne.symm; assumption) | omega) | (apply At.extF; assumption))), by simp; omega⟩ (by show r.sz < l.sz + 1 + r.sz; omega)
      rw [← hsum, hnd, if_neg (by simpa [fromP] using hc), Sm.zero_add]
      rw [show smF (fromP x) l.ents = Sm.zero from smF_none fun e he => by have := hlt e he; simp [fromP]; omega, Sm.zero_add]
    · repeat (first | refine sp ?_ | (refine is_load ?_; refine ld ?_) | (refine is_store ?_; refine sr ?_) | (refine is_alloc ?_; refine al ?_) | (refine is_box ?_; refine bx ?_) | (refine isl_load ?_; refine ldl ?_) | (refine isl_store ?_; refine srl ?_) | (refine isl_alloc ?_; refine all' ?_) | (refine isl_box ?_; refine bxl ?_))
      have hw3 : Fr (fun b => b = p) w2 ((w2.alloc (.cells #[.int .i64 0, .int .i64 0, .int .u32 0, .int .u32 0, .int .i64 0, .int .i64 0, .int .i64 0, .int .i64 0] 64)).setRow w2.heap.size #[.int .i64 k, .int .i64 v, .int .u32 (l.root : Int), .int .u32 (r.root : Int), .int .i64 S.n, .int .i64 S.s, .int .i64 S.mn, .int .i64 S.mx]) := by (repeat (first | exact Fr.refl _ _ | assumption | apply Fr.drewN | apply Fr.alloc | (apply Fr.transF; assumption) | (refine Fr.setRow ?_ _ (by first | exact Or.inr (by (first | omega | (simp; done) | (simp; omega))) | (exact Or.inl (by first | assumption | (simp; done)))))))
      have hat2 : At ((w2.alloc (.cells #[.int .i64 0, .int .i64 0, .int .u32 0, .int .u32 0, .int .i64 0, .int .i64 0, .int .i64 0, .int .i64 0] 64)).setRow w2.heap.size #[.int .i64 k, .int .i64 v, .int .u32 (l.root : Int), .int .u32 (r.root : Int), .int .i64 S.n, .int .i64 S.s, .int .i64 S.mn, .int .i64 S.mx]) w2.heap.size [.int .i64 k, .int .i64 v, .int .u32 (l.root : Int), .int .u32 (r.root : Int), .int .i64 S.n, .int .i64 S.s, .int .i64 S.mn, .int .i64 S.mx] 64 := by (repeat (first | assumption | (refine At.new' (by (first | omega | (simp; done) | (simp; omega))) _ _) | apply At.alloc | apply At.drewN | apply At.setRow | (apply At.setRow_neF; first | assumption | (apply Ne.symm; assumption) | omega) | (apply At.extF; assumption)))
      have ha3 := ha2.ext (w' := (w2.alloc (.cells #[.int .i64 0, .int .i64 0, .int .u32 0, .int .u32 0, .int .i64 0, .int .i64 0, .int .i64 0, .int .i64 0] 64)).setRow w2.heap.size #[.int .i64 k, .int .i64 v, .int .u32 (l.root : Int), .int .u32 (r.root : Int), .int .i64 S.n, .int .i64 S.s, .int .i64 S.mn, .int .i64 S.mx]) (by (repeat (first | exact Fr.refl _ _ | assumption | apply Fr.drewN | apply Fr.alloc | (apply Fr.transF; assumption) | (refine Fr.setRow ?_ _ (by first | exact Or.inr (by (first | omega | (simp; done) | (simp; omega))) | (exact Or.inl (by first | assumption | (simp; done))))))))
      have hsz3 : ((w2.alloc (.cells #[.int .i64 0, .int .i64 0, .int .u32 0, .int .u32 0, .int .i64 0, .int .i64 0, .int .i64 0, .int .i64 0] 64)).setRow w2.heap.size #[.int .i64 k, .int .i64 v, .int .u32 (l.root : Int), .int .u32 (r.root : Int), .int .i64 S.n, .int .i64 S.s, .int .i64 S.mn, .int .i64 S.mx]).heap.size = w2.heap.size + 1 := by simp
      have hx3 : At ((w2.alloc (.cells #[.int .i64 0, .int .i64 0, .int .u32 0, .int .u32 0, .int .i64 0, .int .i64 0, .int .i64 0, .int .i64 0] 64)).setRow w2.heap.size #[.int .i64 k, .int .i64 v, .int .u32 (l.root : Int), .int .u32 (r.root : Int), .int .i64 S.n, .int .i64 S.s, .int .i64 S.mn, .int .i64 S.mx]) w.heap.size [.int .i64 0, .int .i64 0, .int .i64 0, .int .i64 0] 23 := by (repeat (first | assumption | (refine At.new' (by (first | omega | (simp; done) | (simp; omega))) _ _) | apply At.alloc | apply At.drewN | apply At.setRow | (apply At.setRow_neF; first | assumption | (apply Ne.symm; assumption) | omega) | (apply At.extF; assumption)))
      have hx4 : At ((w2.alloc (.cells #[.int .i64 0, .int .i64 0, .int .u32 0, .int .u32 0, .int .i64 0, .int .i64 0, .int .i64 0, .int .i64 0] 64)).setRow w2.heap.size #[.int .i64 k, .int .i64 v, .int .u32 (l.root : Int), .int .u32 (r.root : Int), .int .i64 S.n, .int .i64 S.s, .int .i64 S.mn, .int .i64 S.mx]) (w.heap.size + 1) [.int .i64 s.n, .int .i64 s.s, .int .i64 s.mn, .int .i64 s.mx] 23 := by (repeat (first | assumption | (refine At.new' (by (first | omega | (simp; done) | (simp; omega))) _ _) | apply At.alloc | apply At.drewN | apply At.setRow | (apply At.setRow_neF; first | assumption | (apply Ne.symm; assumption) | omega) | (apply At.extF; assumption)))
      generalize (w2.alloc (.cells #[.int .i64 0, .int .i64 0, .int .u32 0, .int .u32 0, .int .i64 0, .int .i64 0, .int .i64 0, .int .i64 0] 64)).setRow w2.heap.size #[.int .i64 k, .int .i64 v, .int .u32 (l.root : Int), .int .u32 (r.root : Int), .int .i64 S.n, .int .i64 S.s, .int .i64 S.mn, .int .i64 S.mx] = w3 at *
      refine go_drawE (Fr (fun b => b = p) w3) 1 Try.follows (by kernel_rfl) (by kernel_rfl) (by kernel_rfl) ((Fr.refl _ _).drewN 1) ?_
      repeat (first | refine sp ?_ | (refine is_load ?_; refine ld ?_) | (refine is_store ?_; refine sr ?_) | (refine is_alloc ?_; refine al ?_) | (refine is_box ?_; refine bx ?_) | (refine isl_load ?_; refine ldl ?_) | (refine isl_store ?_; refine srl ?_) | (refine isl_alloc ?_; refine all' ?_) | (refine isl_box ?_; refine bxl ?_))
      refine gol_call rfl rfl (c_one v _) ?_
      rintro _ w4 ⟨rfl, hf4⟩
      have g4 : Fr (fun b => b = p) w3 w4 := Fr.trans ((Fr.refl _ _).drewN 1) (Fr.of_ext hf4)
      refine ⟨g4, ?_⟩
      repeat (first | refine sp ?_ | (refine is_load ?_; refine ld ?_) | (refine is_store ?_; refine sr ?_) | (refine is_alloc ?_; refine al ?_) | (refine is_box ?_; refine bx ?_) | (refine isl_load ?_; refine ldl ?_) | (refine isl_store ?_; refine srl ?_) | (refine isl_alloc ?_; refine all' ?_) | (refine isl_box ?_; refine bxl ?_))
      refine gol_call rfl rfl (c_tree w4 lo p q (B.read i) r ((ha3.ext (Fr.drewN (Fr.refl _ _) 1)).ext hf4) hi2.2.2.2.2 her (by omega) hlr.2) ?_
      rintro _ w5 ⟨rfl, B5, ha5, hB5, hf5⟩
      have g5 := g4.trans hf5
      refine ⟨g5, ?_⟩
      have hn2 : (smy r.vals).n = (r.sz : Int) := by rw [smy_n, ← r.len]; simp [Tr.vals]
      have hok2 : (smy r.vals).ok := smy_ok (InE.vals her)
      have hn3 : ((Sm.one v).add (smy r.vals)).n = 1 + (r.sz : Int) := by
        unfold Sm.add
        rw [if_neg (by simp [Sm.one])]
        split
        · rename_i h0; rw [hn2] at h0; simp [Sm.one]; omega
        · simp only [Sm.one, hn2]
      have hok3 := Sm.add_ok (Sm.one_ok hvv) hok2
      have hY : (smF (fromP x) l.ents).add ((Sm.one v).add (smF (fromP x) r.ents)) = ((Sm.one v).add (smy r.vals)).add (smF (fromP x) l.ents) := by
        rw [show smF (fromP x) r.ents = smy r.vals from smF_all fun e he => by have := hgt e he; simp [fromP]; omega]
        exact Sm.add_comm (smF_ok hel) hok3
      repeat (first | refine sp ?_ | (refine is_load ?_; refine ld ?_) | (refine is_store ?_; refine sr ?_) | (refine is_alloc ?_; refine al ?_) | (refine is_box ?_; refine bx ?_) | (refine isl_load ?_; refine ldl ?_) | (refine isl_store ?_; refine srl ?_) | (refine isl_alloc ?_; refine all' ?_) | (refine isl_box ?_; refine bxl ?_))
      refine gol_call rfl rfl (c_SAdd (Sm.one v) (smy r.vals) w5 (by simp [Sm.one]) (by omega)) ?_
      rintro _ w6 ⟨rfl, hf6⟩
      have g6 := g5.trans (Fr.of_ext hf6)
      refine ⟨g6, ?_⟩
      generalize (Sm.one v).add (smy r.vals) = y at *
      repeat (first | refine sp ?_ | (refine is_load ?_; refine ld ?_) | (refine is_store ?_; refine sr ?_) | (refine is_alloc ?_; refine al ?_) | (refine is_box ?_; refine bx ?_) | (refine isl_load ?_; refine ldl ?_) | (refine isl_store ?_; refine srl ?_) | (refine isl_alloc ?_; refine all' ?_) | (refine isl_box ?_; refine bxl ?_))
      refine gol_call rfl rfl (c_SAdd s y w6 (by omega) (by omega)) ?_
      rintro _ w7 ⟨rfl, hf7⟩
      have g7 := g6.trans (Fr.of_ext hf7)
      refine ⟨g7, ?_⟩
      have hx5 := hx4.fr g7 (by omega)
      have hx6 := hx3.fr g7 (by omega)
      have hx7 := hat2.fr g7 (by omega)
      have hl7 := g7.size
      have hadd : (s.add y).n = s.n + y.n := by
        unfold Sm.add
        split
        · rename_i h0; rw [h0]; omega
        · split
          · rename_i h0; omega
          · rfl
      have hok7 := Sm.add_ok hs1 hok3
      have hass : (s.add y).add (smF (fromP x) l.ents) = smF (fromP x) t.ents := by
        rw [← hsum, hnd, if_pos (by simp [fromP]; omega), hY, ← Sm.add_assoc hs1 hok3 (smF_ok hel)]
      generalize s.add y = z at *
      unfold Sm.cells
      repeat (first | refine sp ?_ | (refine is_load ?_; refine ld ?_) | (refine is_store ?_; refine sr ?_) | (refine is_alloc ?_; refine al ?_) | (refine is_box ?_; refine bx ?_) | (refine isl_load ?_; refine ldl ?_) | (refine isl_store ?_; refine srl ?_) | (refine isl_alloc ?_; refine all' ?_) | (refine isl_box ?_; refine bxl ?_))
      refine go_stop (G := Tr × Sm × AR) (l, z, B5) rfl ⟨rfl, rfl, rfl, rfl, trivial⟩ ⟨hB5.inA hi2.2.2.2.1, hel, hol, hok7, hass, by omega, by omega, hlr.1, ((hB.trans (Rds.read B i)).trans hB5).mono (by omega), (ha5.ext hf6).ext hf7 |>.fr (S := fun b => w.heap.size ≤ b) (by (repeat (first | exact Fr.refl _ _ | assumption | apply Fr.drewN | apply Fr.alloc | (apply Fr.transF; assumption) | (refine Fr.setRow ?_ _ (by first | exact Or.inr (by (first | omega | (simp; done) | (simp; omega))) | (exact Or.inl (by first | assumption | (simp; done)))))))) (fun b hb e => by have := ha.lt b hb; omega), ?_, by (repeat (first | assumption | (refine At.new' (by (first | omega | (simp; done) | (simp; omega))) _ _) | apply At.alloc | apply At.drewN | apply At.setRow | (apply At.setRow_neF; first | assumption | (apply Ne.symm; assumption) | omega) | (apply At.extF; assumption))), by (repeat (first | assumption | (refine At.new' (by (first | omega | (simp; done) | (simp; omega))) _ _) | apply At.alloc | apply At.drewN | apply At.setRow | (apply At.setRow_neF; first | assumption | (apply Ne.symm; assumption) | omega) | (apply At.extF; assumption))), by simp; omega⟩ (by show l.sz < l.sz + 1 + r.sz; omega)
      exact (((hF1.trans hf2).trans hw3).trans g7).trans' (S' := fun b => w.heap.size ≤ b) (by (repeat (first | exact Fr.refl _ _ | assumption | apply Fr.drewN | apply Fr.alloc | (apply Fr.transF; assumption) | (refine Fr.setRow ?_ _ (by first | exact Or.inr (by (first | omega | (simp; done) | (simp; omega))) | (exact Or.inl (by first | assumption | (simp; done)))))))) fun b hb e => by omega

set_option maxHeartbeats 4000000 in
theorem c_to (w : World) (lo p : Nat) (q : AP) (A : AR) (t : Tr) (x : Int) (ha : ArP w lo p q A) (hi : InA A t) (he : InE t.ents) (ho : Srt t.ents) (hs : t.sz ≤ 1000000) (hr : t.root < 4294967296) :
    Calls Try.prog 50 [ptr p, .int .u32 (t.root : Int), .int .i64 x].toArray w (Ret (RdR w lo p q A (2 * t.ht) (.agg ⟨(smF (toP x) t.ents).cells⟩))) := by
  refine calls_go Try.func50 rfl Try.ntmps50 (Nat.le_of_ble_eq_true rfl) ?_
  have hpl := ha.lt p ha.fpp
  repeat (first | refine sp ?_ | (refine is_load ?_; refine ld ?_) | (refine is_store ?_; refine sr ?_) | (refine is_alloc ?_; refine al ?_) | (refine is_box ?_; refine bx ?_) | (refine isl_load ?_; refine ldl ?_) | (refine isl_store ?_; refine srl ?_) | (refine isl_alloc ?_; refine all' ?_) | (refine isl_box ?_; refine bxl ?_) | refine dr Try.follows ?_)
  refine go_loop (G := Tr × Sm × AR) [1] (fun ⟨t', _, _⟩ => [.int .u32 (t'.root : Int)]) [(0, ptr p), (2, .int .i64 x), (6, ptr w.heap.size), (7, ptr (w.heap.size + 1))]
    (fun ⟨t', s, B⟩ w' => InA B t' ∧ InE t'.ents ∧ Srt t'.ents ∧ s.ok ∧ s.add (smF (toP x) t'.ents) = smF (toP x) t.ents ∧ s.n + t'.sz ≤ t.sz ∧ t'.ht ≤ t.ht ∧ t'.root < 4294967296 ∧ Rds A B (2 * (t.ht - t'.ht)) ∧ ArP w' lo p q B ∧ Fr (fun b => b = p) w w' ∧
      At w' w.heap.size [.int .i64 0, .int .i64 0, .int .i64 0, .int .i64 0] 23 ∧ At w' (w.heap.size + 1) s.cells 23 ∧ w.heap.size + 2 ≤ w'.heap.size)
    (fun g => g.1.sz) (t, Sm.zero, A) rfl ⟨rfl, rfl, rfl, rfl, trivial⟩
    ⟨hi, he, ho, Sm.zero_ok, Sm.zero_add _, by simp [Sm.zero], Nat.le_refl _, hr, Rds.refl _ _, ha.ext (by (repeat (first | exact Fr.refl _ _ | assumption | apply Fr.drewN | apply Fr.alloc | (apply Fr.transF; assumption) | (refine Fr.setRow ?_ _ (by first | exact Or.inr (by (first | omega | (simp; done) | (simp; omega))) | (exact Or.inl (by first | assumption | (simp; done)))))))), by (repeat (first | exact Fr.refl _ _ | assumption | apply Fr.drewN | apply Fr.alloc | (apply Fr.transF; assumption) | (refine Fr.setRow ?_ _ (by first | exact Or.inr (by (first | omega | (simp; done) | (simp; omega))) | (exact Or.inl (by first | assumption | (simp; done))))))), by (repeat (first | assumption | (refine At.new' (by (first | omega | (simp; done) | (simp; omega))) _ _) | apply At.alloc | apply At.drewN | apply At.setRow | (apply At.setRow_neF; first | assumption | (apply Ne.symm; assumption) | omega) | (apply At.extF; assumption))), by show At _ _ [.int .i64 0, .int .i64 0, .int .i64 0, .int .i64 0] _; (repeat (first | assumption | (refine At.new' (by (first | omega | (simp; done) | (simp; omega))) _ _) | apply At.alloc | apply At.drewN | apply At.setRow | (apply At.setRow_neF; first | assumption | (apply Ne.symm; assumption) | omega) | (apply At.extF; assumption))), by simp⟩ ?_
  rintro ⟨t', s, B⟩ w1 ⟨hi1, he1, ho1, hs1, hsum, hn1, hht, hr1, hB, ha1, hF1, hat0, hat1, hl1⟩
  unfold Sm.cells at hat1
  cases t' with
  | nil =>
    repeat (first | refine sp ?_ | (refine is_load ?_; refine ld ?_) | (refine is_store ?_; refine sr ?_) | (refine is_alloc ?_; refine al ?_) | (refine is_box ?_; refine bx ?_) | (refine isl_load ?_; refine ldl ?_) | (refine isl_store ?_; refine srl ?_) | (refine isl_alloc ?_; refine all' ?_) | (refine isl_box ?_; refine bxl ?_))
    refine go_ret1 rfl ⟨_, rfl, Ld.run (ld_part (by (repeat (first | assumption | (refine At.new' (by (first | omega | (simp; done) | (simp; omega))) _ _) | apply At.alloc | apply At.drewN | apply At.setRow | (apply At.setRow_neF; first | assumption | (apply Ne.symm; assumption) | omega) | (apply At.extF; assumption)))) rfl rfl)⟩ ⟨_, rfl, RdR.fin ?_ ha ha1 (hB.mono (by omega)) hF1 (by (repeat (first | exact Fr.refl _ _ | assumption | apply Fr.drewN | apply Fr.alloc | (apply Fr.transF; assumption) | (refine Fr.setRow ?_ _ (by first | exact Or.inr (by (first | omega | (simp; done) | (simp; omega))) | (exact Or.inl (by first | assumption | (simp; done))))))))⟩
    rw [← hsum, show smF (toP x) (Tr.nil).ents = Sm.zero from rfl, Sm.add_zero hs1]; rfl
  | nd i l k v r =>
    have h0 : i ≠ 0 := by have := hi1.1; omega
    have hrr : (Tr.nd i l k v r).root = i := rfl
    rw [hrr] at hr1
    refine go_as 1 (u' := .int .u32 (i : Int)) rfl rfl ?_
    obtain ⟨hel, her, hkk, hvv⟩ := he1.nd
    obtain ⟨hol, hor, hlt, hgt⟩ := ho1.nd
    have hsz : (Tr.nd i l k v r).sz = l.sz + 1 + r.sz := rfl
    have hhd : (Tr.nd i l k v r).ht = 1 + max l.ht r.ht := rfl
    have hcap := ha1.wf.capM
    have hlr : l.root < 4294967296 ∧ r.root < 4294967296 := by
      constructor
      · rcases hi1.2.2.2.1.or with e | e
        · omega
        · have := used_le ha1.wf e; omega
      · rcases hi1.2.2.2.2.or with e | e
        · omega
        · have := used_le ha1.wf e; omega
    have hnd := smF_nd (p := toP x) he1
    repeat (first | refine sp ?_ | (refine is_load ?_; refine ld ?_) | (refine is_store ?_; refine sr ?_) | (refine is_alloc ?_; refine al ?_) | (refine is_box ?_; refine bx ?_) | (refine isl_load ?_; refine ldl ?_) | (refine isl_store ?_; refine srl ?_) | (refine isl_alloc ?_; refine all' ?_) | (refine isl_box ?_; refine bxl ?_) | refine dr Try.follows ?_)
    refine go_call rfl rfl (p_Node _ lo p q B i ha1 hr1) ?_
    rintro _ w2 ⟨rfl, ha2, hf2⟩
    have hsn := hs1.n0
    rw [show B.used i = true from hi1.2.1, hi1.nodeL he1 (by omega)]
    generalize smy (Tr.nd i l k v r).vals = S
    have hat0' := hat0.fr hf2 (by omega)
    have hat1' := hat1.fr hf2 (by omega)
    have hl2 := hf2.size
    have hi2 := hi1.read i
    by_cases hc : x < k
    · repeat (first | refine sp ?_ | (refine is_load ?_; refine ld ?_) | (refine is_store ?_; refine sr ?_) | (refine is_alloc ?_; refine al ?_) | (refine is_box ?_; refine bx ?_) | (refine isl_load ?_; refine ldl ?_) | (refine isl_store ?_; refine srl ?_) | (refine isl_alloc ?_; refine all' ?_) | (refine isl_box ?_; refine bxl ?_) | refine dr Try.follows ?_)
      refine go_stop (G := Tr × Sm × AR) (l, s, B.read i) rfl ⟨rfl, rfl, rfl, rfl, trivial⟩ ⟨hi2.2.2.2.1, hel, hol, hs1, ?_, by omega, by omega, hlr.1, (hB.trans (Rds.read B i)).mono (by omega), ha2.ext (by (repeat (first | exact Fr.refl _ _ | assumption | apply Fr.drewN | apply Fr.alloc | (apply Fr.transF; assumption) | (refine Fr.setRow ?_ _ (by first | exact Or.inr (by (first | omega | (simp; done) | (simp; omega))) | (exact Or.inl (by first | assumption | (simp; done)))))))), (hF1.trans hf2).trans (by (repeat (first | exact Fr.refl _ _ | assumption | apply Fr.drewN | apply Fr.alloc | (apply Fr.transF; assumption) | (refine Fr.setRow ?_ _ (by first | exact Or.inr (by (first | omega | (simp; done) | (simp; omega))) | (exact Or.inl (by first | assumption | (simp; done)))))))), by (repeat (first | assumption | (refine At.new' (by (first | omega | (simp; done) | (simp; omega))) _ _) | apply At.alloc | apply At.drewN | apply At.setRow | (apply At.setRow_neF; first | assumption | (apply Ne.symm; assumption) | omega) | (apply At.extF; assumption))), by unfold Sm.cells; (repeat (first | assumption | (refine At.new' (by (first | omega | (simp; done) | (simp; omega))) _ _) | apply At.alloc | apply At.drewN | apply At.setRow | (apply At.setRow_neF; first | assumption | (apply Ne.symm; assumption) | omega) | (apply At.extF; assumption))), by simp; omega⟩ (by show l.sz < l.sz + 1 + r.sz; omega)
      rw [← hsum, hnd, if_neg (by simp [toP]; omega), Sm.zero_add]
      rw [show smF (toP x) r.ents = Sm.zero from smF_none fun e he => by have := hgt e he; simp [toP]; omega, Sm.add_zero (smF_ok hel)]
    · repeat (first | refine sp ?_ | (refine is_load ?_; refine ld ?_) | (refine is_store ?_; refine sr ?_) | (refine is_alloc ?_; refine al ?_) | (refine is_box ?_; refine bx ?_) | (refine isl_load ?_; refine ldl ?_) | (refine isl_store ?_; refine srl ?_) | (refine isl_alloc ?_; refine all' ?_) | (refine isl_box ?_; refine bxl ?_))
      have hw3 : Fr (fun b => b = p) w2 ((w2.alloc (.cells #[.int .i64 0, .int .i64 0, .int .u32 0, .int .u32 0, .int .i64 0, .int .i64 0, .int .i64 0, .int .i64 0] 64)).setRow w2.heap.size #[.int .i64 k, .int .i64 v, .int .u32 (l.root : Int), .int .u32 (r.root : Int), .int .i64 S.n, .int .i64 S.s, .int .i64 S.mn, .int .i64 S.mx]) := by (repeat (first | exact Fr.refl _ _ | assumption | apply Fr.drewN | apply Fr.alloc | (apply Fr.transF; assumption) | (refine Fr.setRow ?_ _ (by first | exact Or.inr (by (first | omega | (simp; done) | (simp; omega))) | (exact Or.inl (by first | assumption | (simp; done)))))))
      have hat2 : At ((w2.alloc (.cells #[.int .i64 0, .int .i64 0, .int .u32 0, .int .u32 0, .int .i64 0, .int .i64 0, .int .i64 0, .int .i64 0] 64)).setRow w2.heap.size #[.int .i64 k, .int .i64 v, .int .u32 (l.root : Int), .int .u32 (r.root : Int), .int .i64 S.n, .int .i64 S.s, .int .i64 S.mn, .int .i64 S.mx]) w2.heap.size [.int .i64 k, .int .i64 v, .int .u32 (l.root : Int), .int .u32 (r.root : Int), .int .i64 S.n, .int .i64 S.s, .int .i64 S.mn, .int .i64 S.mx] 64 := by (repeat (first | assumption | (refine At.new' (by (first | omega | (simp; done) | (simp; omega))) _ _) | apply At.alloc | apply At.drewN | apply At.setRow | (apply At.setRow_neF; first | assumption | (apply Ne.symm; assumption) | omega) | (apply At.extF; assumption)))
      have ha3 := ha2.ext (w' := (w2.alloc (.cells #[.int .i64 0, .int .i64 0, .int .u32 0, .int .u32 0, .int .i64 0, .int .i64 0, .int .i64 0, .int .i64 0] 64)).setRow w2.heap.size #[.int .i64 k, .int .i64 v, .int .u32 (l.root : Int), .int .u32 (r.root : Int), .int .i64 S.n, .int .i64 S.s, .int .i64 S.mn, .int .i64 S.mx]) (by (repeat (first | exact Fr.refl _ _ | assumption | apply Fr.drewN | apply Fr.alloc | (apply Fr.transF; assumption) | (refine Fr.setRow ?_ _ (by first | exact Or.inr (by (first | omega | (simp; done) | (simp; omega))) | (exact Or.inl (by first | assumption | (simp; done))))))))
      have hsz3 : ((w2.alloc (.cells #[.int .i64 0, .int .i64 0, .int .u32 0, .int .u32 0, .int .i64 0, .int .i64 0, .int .i64 0, .int .i64 0] 64)).setRow w2.heap.size #[.int .i64 k, .int .i64 v, .int .u32 (l.root : Int), .int .u32 (r.root : Int), .int .i64 S.n, .int .i64 S.s, .int .i64 S.mn, .int .i64 S.mx]).heap.size = w2.heap.size + 1 := by simp
      have hx3 : At ((w2.alloc (.cells #[.int .i64 0, .int .i64 0, .int .u32 0, .int .u32 0, .int .i64 0, .int .i64 0, .int .i64 0, .int .i64 0] 64)).setRow w2.heap.size #[.int .i64 k, .int .i64 v, .int .u32 (l.root : Int), .int .u32 (r.root : Int), .int .i64 S.n, .int .i64 S.s, .int .i64 S.mn, .int .i64 S.mx]) w.heap.size [.int .i64 0, .int .i64 0, .int .i64 0, .int .i64 0] 23 := by (repeat (first | assumption | (refine At.new' (by (first | omega | (simp; done) | (simp; omega))) _ _) | apply At.alloc | apply At.drewN | apply At.setRow | (apply At.setRow_neF; first | assumption | (apply Ne.symm; assumption) | omega) | (apply At.extF; assumption)))
      have hx4 : At ((w2.alloc (.cells #[.int .i64 0, .int .i64 0, .int .u32 0, .int .u32 0, .int .i64 0, .int .i64 0, .int .i64 0, .int .i64 0] 64)).setRow w2.heap.size #[.int .i64 k, .int .i64 v, .int .u32 (l.root : Int), .int .u32 (r.root : Int), .int .i64 S.n, .int .i64 S.s, .int .i64 S.mn, .int .i64 S.mx]) (w.heap.size + 1) [.int .i64 s.n, .int .i64 s.s, .int .i64 s.mn, .int .i64 s.mx] 23 := by (repeat (first | assumption | (refine At.new' (by (first | omega | (simp; done) | (simp; omega))) _ _) | apply At.alloc | apply At.drewN | apply At.setRow | (apply At.setRow_neF; first | assumption | (apply Ne.symm; assumption) | omega) | (apply At.extF; assumption)))
      generalize (w2.alloc (.cells #[.int .i64 0, .int .i64 0, .int .u32 0, .int .u32 0, .int .i64 0, .int .i64 0, .int .i64 0, .int .i64 0] 64)).setRow w2.heap.size #[.int .i64 k, .int .i64 v, .int .u32 (l.root : Int), .int .u32 (r.root : Int), .int .i64 S.n, .int .i64 S.s, .int .i64 S.mn, .int .i64 S.mx] = w3 at *
      refine go_drawE (Fr (fun b => b = p) w3) 1 Try.follows (by kernel_rfl) (by kernel_rfl) (by kernel_rfl) ((Fr.refl _ _).drewN 1) ?_
      repeat (first | refine sp ?_ | (refine is_load ?_; refine ld ?_) | (refine is_store ?_; refine sr ?_) | (refine is_alloc ?_; refine al ?_) | (refine is_box ?_; refine bx ?_) | (refine isl_load ?_; refine ldl ?_) | (refine isl_store ?_; refine srl ?_) | (refine isl_alloc ?_; refine all' ?_) | (refine isl_box ?_; refine bxl ?_))
      refine gol_call rfl rfl (c_one v _) ?_
      rintro _ w4 ⟨rfl, hf4⟩
      have g4 : Fr (fun b => b = p) w3 w4 := Fr.trans ((Fr.refl _ _).drewN 1) (Fr.of_ext hf4)
      refine ⟨g4, ?_⟩
      repeat (first | refine sp ?_ | (refine is_load ?_; refine ld ?_) | (refine is_store ?_; refine sr ?_) | (refine is_alloc ?_; refine al ?_) | (refine is_box ?_; refine bx ?_) | (refine isl_load ?_; refine ldl ?_) | (refine isl_store ?_; refine srl ?_) | (refine isl_alloc ?_; refine all' ?_) | (refine isl_box ?_; refine bxl ?_))
      refine gol_call rfl rfl (c_tree w4 lo p q (B.read i) l ((ha3.ext (Fr.drewN (Fr.refl _ _) 1)).ext hf4) hi2.2.2.2.1 hel (by omega) hlr.1) ?_
      rintro _ w5 ⟨rfl, B5, ha5, hB5, hf5⟩
      have g5 := g4.trans hf5
      refine ⟨g5, ?_⟩
      have hn2 : (smy l.vals).n = (l.sz : Int) := by rw [smy_n, ← l.len]; simp [Tr.vals]
      have hok2 : (smy l.vals).ok := smy_ok (InE.vals hel)
      have hn3 : ((Sm.one v).add (smy l.vals)).n = 1 + (l.sz : Int) := by
        unfold Sm.add
        rw [if_neg (by simp [Sm.one])]
        split
        · rename_i h0; rw [hn2] at h0; simp [Sm.one]; omega
        · simp only [Sm.one, hn2]
      have hok3 := Sm.add_ok (Sm.one_ok hvv) hok2
      have hY : (smF (toP x) l.ents).add ((Sm.one v).add (smF (toP x) r.ents)) = ((Sm.one v).add (smy l.vals)).add (smF (toP x) r.ents) := by
        rw [show smF (toP x) l.ents = smy l.vals from smF_all fun e he => by have := hlt e he; simp [toP]; omega]
        rw [← Sm.add_assoc hok2 (Sm.one_ok hvv) (smF_ok her), Sm.add_comm hok2 (Sm.one_ok hvv)]
      repeat (first | refine sp ?_ | (refine is_load ?_; refine ld ?_) | (refine is_store ?_; refine sr ?_) | (refine is_alloc ?_; refine al ?_) | (refine is_box ?_; refine bx ?_) | (refine isl_load ?_; refine ldl ?_) | (refine isl_store ?_; refine srl ?_) | (refine isl_alloc ?_; refine all' ?_) | (refine isl_box ?_; refine bxl ?_))
      refine gol_call rfl rfl (c_SAdd (Sm.one v) (smy l.vals) w5 (by simp [Sm.one]) (by omega)) ?_
      rintro _ w6 ⟨rfl, hf6⟩
      have g6 := g5.trans (Fr.of_ext hf6)
      refine ⟨g6, ?_⟩
      generalize (Sm.one v).add (smy l.vals) = y at *
      repeat (first | refine sp ?_ | (refine is_load ?_; refine ld ?_) | (refine is_store ?_; refine sr ?_) | (refine is_alloc ?_; refine al ?_) | (refine is_box ?_; refine bx ?_) | (refine isl_load ?_; refine ldl ?_) | (refine isl_store ?_; refine srl ?_) | (refine isl_alloc ?_; refine all' ?_) | (refine isl_box ?_; refine bxl ?_))
      refine gol_call rfl rfl (c_SAdd s y w6 (by omega) (by omega)) ?_
      rintro _ w7 ⟨rfl, hf7⟩
      have g7 := g6.trans (Fr.of_ext hf7)
      refine ⟨g7, ?_⟩
      have hx5 := hx4.fr g7 (by omega)
      have hx6 := hx3.fr g7 (by omega)
      have hx7 := hat2.fr g7 (by omega)
      have hl7 := g7.size
      have hadd : (s.add y).n = s.n + y.n := by
        unfold Sm.add
        split
        · rename_i h0; rw [h0]; omega
        · split
          · rename_i h0; omega
          · rfl
      have hok7 := Sm.add_ok hs1 hok3
      have hass : (s.add y).add (smF (toP x) r.ents) = smF (toP x) t.ents := by
        rw [← hsum, hnd, if_pos (by simp [toP]; omega), hY, ← Sm.add_assoc hs1 hok3 (smF_ok her)]
      generalize s.add y = z at *
      unfold Sm.cells
      repeat (first | refine sp ?_ | (refine is_load ?_; refine ld ?_) | (refine is_store ?_; refine sr ?_) | (refine is_alloc ?_; refine al ?_) | (refine is_box ?_; refine bx ?_) | (refine isl_load ?_; refine ldl ?_) | (refine isl_store ?_; refine srl ?_) | (refine isl_alloc ?_; refine all' ?_) | (refine isl_box ?_; refine bxl ?_))
      refine go_stop (G := Tr × Sm × AR) (r, z, B5) rfl ⟨rfl, rfl, rfl, rfl, trivial⟩ ⟨hB5.inA hi2.2.2.2.2, her, hor, hok7, hass, by omega, by omega, hlr.2, ((hB.trans (Rds.read B i)).trans hB5).mono (by omega), (ha5.ext hf6).ext hf7 |>.fr (S := fun b => w.heap.size ≤ b) (by (repeat (first | exact Fr.refl _ _ | assumption | apply Fr.drewN | apply Fr.alloc | (apply Fr.transF; assumption) | (refine Fr.setRow ?_ _ (by first | exact Or.inr (by (first | omega | (simp; done) | (simp; omega))) | (exact Or.inl (by first | assumption | (simp; done)))))))) (fun b hb e => by have := ha.lt b hb; omega), ?_, by (repeat (first | assumption | (refine At.new' (by (first | omega | (simp; done) | (simp; omega))) _ _) | apply At.alloc | apply At.drewN | apply At.setRow | (apply At.setRow_neF; first | assumption | (apply Ne.symm; assumption) | omega) | (apply At.extF; assumption))), by (repeat (first | assumption | (refine At.new' (by (first | omega | (simp; done) | (simp; omega))) _ _) | apply At.alloc | apply At.drewN | apply At.setRow | (apply At.setRow_neF; first | assumption | (apply Ne.symm; assumption) | omega) | (apply At.extF; assumption))), by simp; omega⟩ (by show r.sz < l.sz + 1 + r.sz; omega)
      exact (((hF1.trans hf2).trans hw3).trans g7).trans' (S' := fun b => w.heap.size ≤ b) (by (repeat (first | exact Fr.refl _ _ | assumption | apply Fr.drewN | apply Fr.alloc | (apply Fr.transF; assumption) | (refine Fr.setRow ?_ _ (by first | exact Or.inr (by (first | omega | (simp; done) | (simp; omega))) | (exact Or.inl (by first | assumption | (simp; done)))))))) fun b hb e => by omega

end Go.Proofs.Ytklgmomhdlhajaa
