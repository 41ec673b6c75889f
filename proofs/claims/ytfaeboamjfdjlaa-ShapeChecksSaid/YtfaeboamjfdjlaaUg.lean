/-
  The reference's check of an arbitrary index of a dump; the checks of indexes that are not allocated.
-/
import Derived.Test.YtfaeboamjfdjlaaUf
set_option linter.unusedVariables false
namespace Go.Proofs.Ytfaeboamjfdjlaa
open Go.Vc

/-- What 'ordered' leaves behind: 'dv' are the cells of the dump. -/
def OrdR (b : Nat) (dv : List Value) (last : Int) (any : Bool) (m : Nat) (t : Tr) (v : Value) (w' : World) : Prop :=
  (t.sz ≤ m ∧ v = .bool true ∧ ∃ last' any', At w' b (dv ++ [.int .i64 last', .bool any', .int .i64 ((m - t.sz : Nat) : Int)]) 79 ∧ ∀ X, OkF last' any' X ↔ OkF last any (t.subs ++ X)) ∨ (v = .bool false ∧ ¬ (t.sz ≤ m ∧ OkF last any t.subs))

set_option maxHeartbeats 1000000 in
theorem c_ordered : ∀ (t : Tr) (w : World) (lo hi b : Nat) (s1 s2 : Option Addr) (c1 c2 : Nat) (last : Int) (any : Bool) (m : Nat) (A : AR), Wf A → DpB w lo hi (.agg ⟨[.slice s1 A.dump.slots.length c1, .slice s2 A.dump.free.length c2]⟩) A.dump → hi ≤ b → InA A t → m ≤ 10000000 →
    At w b [.slice s1 A.dump.slots.length c1, .slice s2 A.dump.free.length c2, .int .i64 last, .bool any, .int .i64 (m : Int)] 79 →
    Calls Try.prog 35 [ptr b, .int .u32 (t.root : Int)].toArray w (Ret fun v w' => OrdR b [.slice s1 A.dump.slots.length c1, .slice s2 A.dump.free.length c2] last any m t v w' ∧ Fr (fun x => x = b) w w') := by
  intro t
  induction t with
  | nil =>
    intro w lo hi b s1 s2 c1 c2 last any m A hw hd hh hi0 hm ha
    refine calls_go Try.func35 rfl Try.ntmps35 (Nat.le_of_ble_eq_true rfl) ?_
    repeat (first | refine sp ?_ | (refine is_load ?_; refine ld ?_) | (refine is_store ?_; refine sr ?_) | (refine is_alloc ?_; refine al ?_) | (refine is_box ?_; refine bx ?_) | (refine isl_load ?_; refine ldl ?_) | (refine isl_store ?_; refine srl ?_) | (refine isl_alloc ?_; refine all' ?_) | (refine isl_box ?_; refine bxl ?_))
    refine go_ret1 rfl rfl ⟨_, rfl, Or.inl ⟨Nat.zero_le _, rfl, last, any, ?_, fun X => Iff.rfl⟩, Fr.refl _ _⟩
    rw [show m - Tr.nil.sz = m from Nat.sub_zero m]
    exact ha
  | nd i l k v0 r ihl ihr =>
    intro w lo hi b s1 s2 c1 c2 last any m A hw hd hh hi0 hm ha
    have e0 : (Tr.nd i l k v0 r).sz = l.sz + 1 + r.sz := rfl
    have esub : (Tr.nd i l k v0 r).subs = l.subs ++ .nd i l k v0 r :: r.subs := rfl
    obtain ⟨hri, hrl, hrr⟩ := hi0.roots hw
    have h0 : i ≠ 0 := by have := hi0.1; omega
    have hkn : A.nodeOf i = mkN A k v0 l.root r.root := hi0.nodeOf
    have hlr := mkN_lr A k v0 l.root r.root
    rw [← hkn] at hlr
    have hdl := (dump_len hw).1
    have hbl := ha.lt
    rw [show (Tr.nd i l k v0 r).root = i from rfl]
    refine calls_go Try.func35 rfl Try.ntmps35 (Nat.le_of_ble_eq_true rfl) ?_
    by_cases hm0 : m = 0
    · subst hm0
      repeat (first | refine sp ?_ | (refine is_load ?_; refine ld ?_) | (refine is_store ?_; refine sr ?_) | (refine is_alloc ?_; refine al ?_) | (refine is_box ?_; refine bx ?_) | (refine isl_load ?_; refine ldl ?_) | (refine isl_store ?_; refine srl ?_) | (refine isl_alloc ?_; refine all' ?_) | (refine isl_box ?_; refine bxl ?_))
      exact go_ret1 rfl rfl ⟨_, rfl, Or.inr ⟨rfl, fun h => by omega⟩, Fr.refl _ _⟩
    obtain ⟨m1, rfl⟩ : ∃ m1, m = m1 + 1 := ⟨m - 1, by omega⟩
    repeat (first | refine sp ?_ | (refine is_load ?_; refine ld ?_) | (refine is_store ?_; refine sr ?_) | (refine is_alloc ?_; refine al ?_) | (refine is_box ?_; refine bx ?_) | (refine isl_load ?_; refine ldl ?_) | (refine isl_store ?_; refine srl ?_) | (refine isl_alloc ?_; refine all' ?_) | (refine isl_box ?_; refine bxl ?_))
    refine go_name (F := fun w1 => At w1 b [.slice s1 A.dump.slots.length c1, .slice s2 A.dump.free.length c2, .int .i64 last, .bool any, .int .i64 (m1 : Int)] 79 ∧ Fr (fun x => x = b) w w1) ⟨?_, by (repeat (first | exact Fr.refl _ _ | assumption | apply Fr.drewN | apply Fr.alloc | (apply Fr.transF; assumption) | (refine Fr.setRow ?_ _ (by first | exact Or.inr (by (first | omega | (simp; done) | (simp; omega))) | (exact Or.inl (by first | assumption | (simp; done)))))))⟩ ?_
    · rw [show (m1 : Int) = ((m1 + 1 : Nat) : Int) - 1 by omega]
      (repeat (first | assumption | (refine At.new' (by (first | omega | (simp; done) | (simp; omega))) _ _) | apply At.alloc | apply At.drewN | apply At.setRow | (apply At.setRow_neF; first | assumption | (apply Ne.symm; assumption) | omega) | (apply At.extF; assumption)))
    rintro w1 ⟨ha1, hf1⟩
    have hd1 := hd.fr hf1 (fun x _ hx e => by omega)
    have hl1 := hf1.size
    refine go_call rfl rfl (c_ref7node w1 lo _ A.dump i (hd1.dp (by omega)) hdl hri) ?_
    rintro _ w2 ⟨rfl, hx2⟩
    have ha2 := ha1.ext hx2
    have hl2 := hx2.size
    have hd2 := hd1.fr hx2 (fun _ _ _ => id)
    rw [dump_nd hw]
    obtain ⟨N, hN⟩ : ∃ N, A.nodeOf i = N := ⟨_, rfl⟩
    rw [hN] at hlr ⊢
    unfold Nd.cells
    repeat (first | refine sp ?_ | (refine is_load ?_; refine ld ?_) | (refine is_store ?_; refine sr ?_) | (refine is_alloc ?_; refine al ?_) | (refine is_box ?_; refine bx ?_) | (refine isl_load ?_; refine ldl ?_) | (refine isl_store ?_; refine srl ?_) | (refine isl_alloc ?_; refine all' ?_) | (refine isl_box ?_; refine bxl ?_))
    refine go_name (F := fun w3 => At w3 w2.heap.size [.int .i64 N.key, .int .i64 N.val, .int .u32 (N.left : Int), .int .u32 (N.right : Int), .int .i64 N.size, .int .i64 N.sum, .int .i64 N.mn, .int .i64 N.mx] 41 ∧ Ext w2 w3) ⟨by (repeat (first | assumption | (refine At.new' (by (first | omega | (simp; done) | (simp; omega))) _ _) | apply At.alloc | apply At.drewN | apply At.setRow | (apply At.setRow_neF; first | assumption | (apply Ne.symm; assumption) | omega) | (apply At.extF; assumption))), by (repeat (first | exact Fr.refl _ _ | assumption | apply Fr.drewN | apply Fr.alloc | (apply Fr.transF; assumption) | (refine Fr.setRow ?_ _ (by first | exact Or.inr (by (first | omega | (simp; done) | (simp; omega))) | (exact Or.inl (by first | assumption | (simp; done)))))))⟩ ?_
    rintro w3 ⟨hat, hx3⟩
    rw [hlr.1, hlr.2.2.1, hlr.2.2.2] at hat
    have ha3 := ha2.ext hx3
    have hl3 := hx3.size
    have hd3 := hd2.fr hx3 (fun _ _ _ => id)
    have hF3 : Fr (fun x => x = b) w w3 := (hf1.trans (Fr.of_ext hx2)).trans (Fr.of_ext hx3)
    have hnb : ¬ w2.heap.size = b := by omega
    rw [hlr.2.2.1]
    refine go_call rfl rfl (ihl w3 lo hi b s1 s2 c1 c2 last any m1 A hw hd3 hh hi0.2.2.2.1 (by omega) ha3) ?_
    rintro _ w4 ⟨hR4, hf4⟩
    have hF4 := hF3.trans hf4
    rcases hR4 with ⟨hls, rfl, last1, any1, ha4, hX4⟩ | ⟨rfl, hn4⟩
    rotate_left
    · repeat (first | refine sp ?_ | (refine is_load ?_; refine ld ?_) | (refine is_store ?_; refine sr ?_) | (refine is_alloc ?_; refine al ?_) | (refine is_box ?_; refine bx ?_) | (refine isl_load ?_; refine ldl ?_) | (refine isl_store ?_; refine srl ?_) | (refine isl_alloc ?_; refine all' ?_) | (refine isl_box ?_; refine bxl ?_))
      exact go_ret1 rfl rfl ⟨_, rfl, Or.inr ⟨rfl, fun h => hn4 ⟨by omega, okF_pre (by rw [← esub]; exact h.2)⟩⟩, hF4⟩
    have hat4 := hat.fr hf4 hnb
    have hl4 := hf4.size
    have hd4 := hd3.fr hf4 (fun x _ hx e => by omega)
    simp only [List.cons_append, List.nil_append] at ha4
    have hT : ∀ X, (((any1 = true → last1 < k) ∧ OkF k true (r.subs ++ X)) ↔ OkF last any ((Tr.nd i l k v0 r).subs ++ X)) := fun X => by
      have := hX4 (.nd i l k v0 r :: (r.subs ++ X))
      rw [okF_cons] at this
      rw [esub, List.append_assoc, List.cons_append]; exact this
    cases any1 with
    | false =>
      have hT' : ∀ X, OkF k true (r.subs ++ X) ↔ OkF last any ((Tr.nd i l k v0 r).subs ++ X) := fun X => ⟨fun h => (hT X).1 ⟨fun e => (by cases e), h⟩, fun h => ((hT X).2 h).2⟩
      skip
      repeat (first | refine sp ?_ | (refine is_load ?_; refine ld ?_) | (refine is_store ?_; refine sr ?_) | (refine is_alloc ?_; refine al ?_) | (refine is_box ?_; refine bx ?_) | (refine isl_load ?_; refine ldl ?_) | (refine isl_store ?_; refine srl ?_) | (refine isl_alloc ?_; refine all' ?_) | (refine isl_box ?_; refine bxl ?_) | refine dr Try.follows ?_)
      refine go_name (F := fun w5 => At w5 b [.slice s1 A.dump.slots.length c1, .slice s2 A.dump.free.length c2, .int .i64 k, .bool true, .int .i64 ((m1 - l.sz : Nat) : Int)] 79 ∧ At w5 w2.heap.size [.int .i64 k, .int .i64 N.val, .int .u32 (l.root : Int), .int .u32 (r.root : Int), .int .i64 N.size, .int .i64 N.sum, .int .i64 N.mn, .int .i64 N.mx] 41 ∧ Fr (fun x => x = b) w4 w5) ⟨by (repeat (first | assumption | (refine At.new' (by (first | omega | (simp; done) | (simp; omega))) _ _) | apply At.alloc | apply At.drewN | apply At.setRow | (apply At.setRow_neF; first | assumption | (apply Ne.symm; assumption) | omega) | (apply At.extF; assumption))), by (repeat (first | assumption | (refine At.new' (by (first | omega | (simp; done) | (simp; omega))) _ _) | apply At.alloc | apply At.drewN | apply At.setRow | (apply At.setRow_neF; first | assumption | (apply Ne.symm; assumption) | omega) | (apply At.extF; assumption))), by (repeat (first | exact Fr.refl _ _ | assumption | apply Fr.drewN | apply Fr.alloc | (apply Fr.transF; assumption) | (refine Fr.setRow ?_ _ (by first | exact Or.inr (by (first | omega | (simp; done) | (simp; omega))) | (exact Or.inl (by first | assumption | (simp; done)))))))⟩ ?_
      rintro w5 ⟨ha5, hat5, hf5⟩
      have hd5 := hd4.fr hf5 (fun x _ hx e => by omega)
      repeat (first | refine sp ?_ | (refine is_load ?_; refine ld ?_) | (refine is_store ?_; refine sr ?_) | (refine is_alloc ?_; refine al ?_) | (refine is_box ?_; refine bx ?_) | (refine isl_load ?_; refine ldl ?_) | (refine isl_store ?_; refine srl ?_) | (refine isl_alloc ?_; refine all' ?_) | (refine isl_box ?_; refine bxl ?_))
      refine go_call rfl rfl (ihr w5 lo hi b s1 s2 c1 c2 k true (m1 - l.sz) A hw hd5 hh hi0.2.2.2.2 (by omega) ha5) ?_
      rintro _ w6 ⟨hR6, hf6⟩
      have hF6 := (hF4.trans hf5).trans hf6
      rcases hR6 with ⟨hrs, rfl, last2, any2, ha6, hX6⟩ | ⟨rfl, hn6⟩
      · repeat (first | refine sp ?_ | (refine is_load ?_; refine ld ?_) | (refine is_store ?_; refine sr ?_) | (refine is_alloc ?_; refine al ?_) | (refine is_box ?_; refine bx ?_) | (refine isl_load ?_; refine ldl ?_) | (refine isl_store ?_; refine srl ?_) | (refine isl_alloc ?_; refine all' ?_) | (refine isl_box ?_; refine bxl ?_))
        refine go_ret1 rfl rfl ⟨_, rfl, Or.inl ⟨by omega, rfl, last2, any2, ?_, fun X => (hX6 X).trans (hT' X)⟩, hF6⟩
        rw [show m1 + 1 - (Tr.nd i l k v0 r).sz = m1 - l.sz - r.sz by omega]
        exact ha6
      · repeat (first | refine sp ?_ | (refine is_load ?_; refine ld ?_) | (refine is_store ?_; refine sr ?_) | (refine is_alloc ?_; refine al ?_) | (refine is_box ?_; refine bx ?_) | (refine isl_load ?_; refine ldl ?_) | (refine isl_store ?_; refine srl ?_) | (refine isl_alloc ?_; refine all' ?_) | (refine isl_box ?_; refine bxl ?_))
        refine go_ret1 rfl rfl ⟨_, rfl, Or.inr ⟨rfl, fun h => hn6 ⟨by omega, ?_⟩⟩, hF6⟩
        have := (hT' []).2 (by rw [List.append_nil]; exact h.2)
        rw [List.append_nil] at this; exact this
    | true =>
      by_cases hkl : k ≤ last1
      · have hn : ¬ OkF last any (Tr.nd i l k v0 r).subs := fun h => by have := ((hT []).2 (by rw [List.append_nil]; exact h)).1 rfl; omega
        repeat (first | refine sp ?_ | (refine is_load ?_; refine ld ?_) | (refine is_store ?_; refine sr ?_) | (refine is_alloc ?_; refine al ?_) | (refine is_box ?_; refine bx ?_) | (refine isl_load ?_; refine ldl ?_) | (refine isl_store ?_; refine srl ?_) | (refine isl_alloc ?_; refine all' ?_) | (refine isl_box ?_; refine bxl ?_) | refine dr Try.follows ?_)
        exact go_ret1 rfl rfl ⟨_, rfl, Or.inr ⟨rfl, fun h => hn h.2⟩, hF4.drewN 1⟩
      · have hT' : ∀ X, OkF k true (r.subs ++ X) ↔ OkF last any ((Tr.nd i l k v0 r).subs ++ X) := fun X => ⟨fun h => (hT X).1 ⟨fun _ => by omega, h⟩, fun h => ((hT X).2 h).2⟩
        skip
        repeat (first | refine sp ?_ | (refine is_load ?_; refine ld ?_) | (refine is_store ?_; refine sr ?_) | (refine is_alloc ?_; refine al ?_) | (refine is_box ?_; refine bx ?_) | (refine isl_load ?_; refine ldl ?_) | (refine isl_store ?_; refine srl ?_) | (refine isl_alloc ?_; refine all' ?_) | (refine isl_box ?_; refine bxl ?_) | refine dr Try.follows ?_)
        refine go_name (F := fun w5 => At w5 b [.slice s1 A.dump.slots.length c1, .slice s2 A.dump.free.length c2, .int .i64 k, .bool true, .int .i64 ((m1 - l.sz : Nat) : Int)] 79 ∧ At w5 w2.heap.size [.int .i64 k, .int .i64 N.val, .int .u32 (l.root : Int), .int .u32 (r.root : Int), .int .i64 N.size, .int .i64 N.sum, .int .i64 N.mn, .int .i64 N.mx] 41 ∧ Fr (fun x => x = b) w4 w5) ⟨by (repeat (first | assumption | (refine At.new' (by (first | omega | (simp; done) | (simp; omega))) _ _) | apply At.alloc | apply At.drewN | apply At.setRow | (apply At.setRow_neF; first | assumption | (apply Ne.symm; assumption) | omega) | (apply At.extF; assumption))), by (repeat (first | assumption | (refine At.new' (by (first | omega | (simp; done) | (simp; omega))) _ _) | apply At.alloc | apply At.drewN | apply At.setRow | (apply At.setRow_neF; first | assumption | (apply Ne.symm; assumption) | omega) | (apply At.extF; assumption))), by (repeat (first | exact Fr.refl _ _ | assumption | apply Fr.drewN | apply Fr.alloc | (apply Fr.transF; assumption) | (refine Fr.setRow ?_ _ (by first | exact Or.inr (by (first | omega | (simp; done) | (simp; omega))) | (exact Or.inl (by first | assumption | (simp; done)))))))⟩ ?_
        rintro w5 ⟨ha5, hat5, hf5⟩
        have hd5 := hd4.fr hf5 (fun x _ hx e => by omega)
        repeat (first | refine sp ?_ | (refine is_load ?_; refine ld ?_) | (refine is_store ?_; refine sr ?_) | (refine is_alloc ?_; refine al ?_) | (refine is_box ?_; refine bx ?_) | (refine isl_load ?_; refine ldl ?_) | (refine isl_store ?_; refine srl ?_) | (refine isl_alloc ?_; refine all' ?_) | (refine isl_box ?_; refine bxl ?_))
        refine go_call rfl rfl (ihr w5 lo hi b s1 s2 c1 c2 k true (m1 - l.sz) A hw hd5 hh hi0.2.2.2.2 (by omega) ha5) ?_
        rintro _ w6 ⟨hR6, hf6⟩
        have hF6 := (hF4.trans hf5).trans hf6
        rcases hR6 with ⟨hrs, rfl, last2, any2, ha6, hX6⟩ | ⟨rfl, hn6⟩
        · repeat (first | refine sp ?_ | (refine is_load ?_; refine ld ?_) | (refine is_store ?_; refine sr ?_) | (refine is_alloc ?_; refine al ?_) | (refine is_box ?_; refine bx ?_) | (refine isl_load ?_; refine ldl ?_) | (refine isl_store ?_; refine srl ?_) | (refine isl_alloc ?_; refine all' ?_) | (refine isl_box ?_; refine bxl ?_))
          refine go_ret1 rfl rfl ⟨_, rfl, Or.inl ⟨by omega, rfl, last2, any2, ?_, fun X => (hX6 X).trans (hT' X)⟩, hF6⟩
          rw [show m1 + 1 - (Tr.nd i l k v0 r).sz = m1 - l.sz - r.sz by omega]
          exact ha6
        · repeat (first | refine sp ?_ | (refine is_load ?_; refine ld ?_) | (refine is_store ?_; refine sr ?_) | (refine is_alloc ?_; refine al ?_) | (refine is_box ?_; refine bx ?_) | (refine isl_load ?_; refine ldl ?_) | (refine isl_store ?_; refine srl ?_) | (refine isl_alloc ?_; refine all' ?_) | (refine isl_box ?_; refine bxl ?_))
          refine go_ret1 rfl rfl ⟨_, rfl, Or.inr ⟨rfl, fun h => hn6 ⟨by omega, ?_⟩⟩, hF6⟩
          have := (hT' []).2 (by rw [List.append_nil]; exact h.2)
          rw [List.append_nil] at this; exact this


set_option maxHeartbeats 1000000 in
theorem c_balanced : ∀ (t : Tr) (w : World) (lo : Nat) (v : Value) (A : AR), Wf A → DpAt w lo v A.dump → InA A t → t.sz ≤ 2147483647 →
    Calls Try.prog 36 [v, .int .u32 (t.root : Int)].toArray w (Ret fun r w' => r = .bool t.balB ∧ Ext w w')
  | .nil, w, lo, v, A, hw, hd, hi, hH => by
    obtain ⟨s1, c1, s2, c2, rfl, _, _⟩ := hd.b
    refine calls_go Try.func36 rfl Try.ntmps36 (Nat.le_of_ble_eq_true rfl) ?_
    repeat (first | refine sp ?_ | (refine is_load ?_; refine ld ?_) | (refine is_store ?_; refine sr ?_) | (refine is_alloc ?_; refine al ?_) | (refine is_box ?_; refine bx ?_) | (refine isl_load ?_; refine ldl ?_) | (refine isl_store ?_; refine srl ?_) | (refine isl_alloc ?_; refine all' ?_) | (refine isl_box ?_; refine bxl ?_))
    exact go_ret1 rfl rfl ⟨_, rfl, rfl, by (repeat (first | exact Fr.refl _ _ | assumption | apply Fr.drewN | apply Fr.alloc | (apply Fr.transF; assumption) | (refine Fr.setRow ?_ _ (by first | exact Or.inr (by (first | omega | (simp; done) | (simp; omega))) | (exact Or.inl (by first | assumption | (simp; done)))))))⟩
  | .nd i l k v0 r, w, lo, v, A, hw, hd, hi, hH => by
    have e0 : (Tr.nd i l k v0 r).sz = l.sz + 1 + r.sz := rfl
    have eb : (Tr.nd i l k v0 r).balB = (balanced (l.sz : Int) (r.sz : Int) && (l.balB && r.balB)) := rfl
    obtain ⟨hri, hrl, hrr⟩ := hi.roots hw
    have h0 : i ≠ 0 := by have := hi.1; omega
    have hkn : A.nodeOf i = mkN A k v0 l.root r.root := hi.nodeOf
    have hlr := mkN_lr A k v0 l.root r.root
    rw [← hkn] at hlr
    have hdl := (dump_len hw).1
    have hsl : (A.nodeOf l.root).size = (l.sz : Int) := by
      rw [← hi.2.2.2.1.sizeOf hw (by omega)]; unfold AR.sizeOf AR.nodeOf; split <;> rfl
    have hsr : (A.nodeOf r.root).size = (r.sz : Int) := by
      rw [← hi.2.2.2.2.sizeOf hw (by omega)]; unfold AR.sizeOf AR.nodeOf; split <;> rfl
    obtain ⟨s1, c1, s2, c2, rfl, _, _⟩ := hd.b
    rw [eb]
    rw [show (Tr.nd i l k v0 r).root = i from rfl]
    refine calls_go Try.func36 rfl Try.ntmps36 (Nat.le_of_ble_eq_true rfl) ?_
    repeat (first | refine sp ?_ | (refine is_load ?_; refine ld ?_) | (refine is_store ?_; refine sr ?_) | (refine is_alloc ?_; refine al ?_) | (refine is_box ?_; refine bx ?_) | (refine isl_load ?_; refine ldl ?_) | (refine isl_store ?_; refine srl ?_) | (refine isl_alloc ?_; refine all' ?_) | (refine isl_box ?_; refine bxl ?_))
    refine go_name (F := fun w1 => At w1 w.heap.size [.slice s1 A.dump.slots.length c1, .slice s2 A.dump.free.length c2] 31 ∧ Ext w w1) ⟨by (repeat (first | assumption | (refine At.new' (by (first | omega | (simp; done) | (simp; omega))) _ _) | apply At.alloc | apply At.drewN | apply At.setRow | (apply At.setRow_neF; first | assumption | (apply Ne.symm; assumption) | omega) | (apply At.extF; assumption))), by (repeat (first | exact Fr.refl _ _ | assumption | apply Fr.drewN | apply Fr.alloc | (apply Fr.transF; assumption) | (refine Fr.setRow ?_ _ (by first | exact Or.inr (by (first | omega | (simp; done) | (simp; omega))) | (exact Or.inl (by first | assumption | (simp; done)))))))⟩ ?_
    rintro w1 ⟨hb1, hx1⟩
    refine go_call rfl rfl (c_ref7node w1 lo _ A.dump i (hd.ext hx1) hdl hri) ?_
    rintro _ w2 ⟨rfl, hx2⟩
    have hb2 := hb1.ext hx2
    have hx2' := hx1.trans hx2
    have hl2 := hb2.lt
    rw [dump_nd hw]
    obtain ⟨N, hN⟩ : ∃ N, A.nodeOf i = N := ⟨_, rfl⟩
    rw [hN] at hlr ⊢
    unfold Nd.cells
    repeat (first | refine sp ?_ | (refine is_load ?_; refine ld ?_) | (refine is_store ?_; refine sr ?_) | (refine is_alloc ?_; refine al ?_) | (refine is_box ?_; refine bx ?_) | (refine isl_load ?_; refine ldl ?_) | (refine isl_store ?_; refine srl ?_) | (refine isl_alloc ?_; refine all' ?_) | (refine isl_box ?_; refine bxl ?_))
    refine go_name (F := fun w3 => At w3 w2.heap.size [.int .i64 N.key, .int .i64 N.val, .int .u32 (N.left : Int), .int .u32 (N.right : Int), .int .i64 N.size, .int .i64 N.sum, .int .i64 N.mn, .int .i64 N.mx] 41 ∧ At w3 w.heap.size [.slice s1 A.dump.slots.length c1, .slice s2 A.dump.free.length c2] 31 ∧ Ext w2 w3) ⟨by (repeat (first | assumption | (refine At.new' (by (first | omega | (simp; done) | (simp; omega))) _ _) | apply At.alloc | apply At.drewN | apply At.setRow | (apply At.setRow_neF; first | assumption | (apply Ne.symm; assumption) | omega) | (apply At.extF; assumption))), by (repeat (first | assumption | (refine At.new' (by (first | omega | (simp; done) | (simp; omega))) _ _) | apply At.alloc | apply At.drewN | apply At.setRow | (apply At.setRow_neF; first | assumption | (apply Ne.symm; assumption) | omega) | (apply At.extF; assumption))), by (repeat (first | exact Fr.refl _ _ | assumption | apply Fr.drewN | apply Fr.alloc | (apply Fr.transF; assumption) | (refine Fr.setRow ?_ _ (by first | exact Or.inr (by (first | omega | (simp; done) | (simp; omega))) | (exact Or.inl (by first | assumption | (simp; done)))))))⟩ ?_
    rintro w3 ⟨hat, hb3, hx3⟩
    rw [hlr.2.2.1, hlr.2.2.2] at hat
    refine go_drawE (Fr (fun _ => False) w3) 0 Try.follows (by kernel_rfl) (by kernel_rfl) (by kernel_rfl) ((Fr.refl _ _).drewN 1) ?_
    repeat (first | refine sp ?_ | (refine is_load ?_; refine ld ?_) | (refine is_store ?_; refine sr ?_) | (refine is_alloc ?_; refine al ?_) | (refine is_box ?_; refine bx ?_) | (refine isl_load ?_; refine ldl ?_) | (refine isl_store ?_; refine srl ?_) | (refine isl_alloc ?_; refine all' ?_) | (refine isl_box ?_; refine bxl ?_))
    have hx3' : Ext w (w3.drewN 1) := (hx2'.trans hx3).trans ((Fr.refl _ _).drewN 1)
    refine gol_call rfl rfl (c_ref7node _ lo _ A.dump l.root (hd.ext hx3') hdl hrl) ?_
    rintro _ w4 ⟨rfl, hx4⟩
    have hx4' : Ext w3 w4 := Fr.trans ((Fr.refl _ _).drewN 1) hx4
    refine ⟨hx4', ?_⟩
    rw [dump_nd hw]
    obtain ⟨NL, hNL⟩ : ∃ N, A.nodeOf l.root = N := ⟨_, rfl⟩
    rw [hNL] at hsl ⊢
    unfold Nd.cells
    rw [hsl]
    repeat (first | refine sp ?_ | (refine is_load ?_; refine ld ?_) | (refine is_store ?_; refine sr ?_) | (refine is_alloc ?_; refine al ?_) | (refine is_box ?_; refine bx ?_) | (refine isl_load ?_; refine ldl ?_) | (refine isl_store ?_; refine srl ?_) | (refine isl_alloc ?_; refine all' ?_) | (refine isl_box ?_; refine bxl ?_))
    refine gol_call rfl rfl (c_ref7node _ lo _ A.dump r.root (hd.ext ((hx2'.trans hx3).trans hx4')) hdl hrr) ?_
    rintro _ w5 ⟨rfl, hx5⟩
    have hx5' := hx4'.trans hx5
    refine ⟨hx5', ?_⟩
    rw [dump_nd hw]
    obtain ⟨NR, hNR⟩ : ∃ N, A.nodeOf r.root = N := ⟨_, rfl⟩
    rw [hNR] at hsr ⊢
    unfold Nd.cells
    rw [hsr]
    repeat (first | refine sp ?_ | (refine is_load ?_; refine ld ?_) | (refine is_store ?_; refine sr ?_) | (refine is_alloc ?_; refine al ?_) | (refine is_box ?_; refine bx ?_) | (refine isl_load ?_; refine ldl ?_) | (refine isl_store ?_; refine srl ?_) | (refine isl_alloc ?_; refine all' ?_) | (refine isl_box ?_; refine bxl ?_))
    refine gol_call rfl rfl (c_refBalanced (l.sz : Int) (r.sz : Int) _) ?_
    rintro _ w5 ⟨rfl, rfl⟩
    refine ⟨hx5', ?_⟩
    cases hB : balanced (l.sz : Int) (r.sz : Int) with
    | false =>
      rw [Bool.false_and]
      repeat (first | refine sp ?_ | (refine is_load ?_; refine ld ?_) | (refine is_store ?_; refine sr ?_) | (refine is_alloc ?_; refine al ?_) | (refine is_box ?_; refine bx ?_) | (refine isl_load ?_; refine ldl ?_) | (refine isl_store ?_; refine srl ?_) | (refine isl_alloc ?_; refine all' ?_) | (refine isl_box ?_; refine bxl ?_))
      exact go_ret1 rfl rfl ⟨_, rfl, rfl, (hx2'.trans hx3).trans hx5'⟩
    | true =>
      rw [Bool.true_and]
      repeat (first | refine sp ?_ | (refine is_load ?_; refine ld ?_) | (refine is_store ?_; refine sr ?_) | (refine is_alloc ?_; refine al ?_) | (refine is_box ?_; refine bx ?_) | (refine isl_load ?_; refine ldl ?_) | (refine isl_store ?_; refine srl ?_) | (refine isl_alloc ?_; refine all' ?_) | (refine isl_box ?_; refine bxl ?_))
      refine gol_call rfl rfl (c_balanced l _ lo _ A hw (hd.ext ((hx2'.trans hx3).trans hx5')) hi.2.2.2.1 (by omega)) ?_
      rintro _ w6 ⟨rfl, hx6⟩
      have hx6' := hx5'.trans hx6
      refine ⟨hx6', ?_⟩
      cases hBl : l.balB with
      | false =>
        rw [Bool.false_and]
        repeat (first | refine sp ?_ | (refine is_load ?_; refine ld ?_) | (refine is_store ?_; refine sr ?_) | (refine is_alloc ?_; refine al ?_) | (refine is_box ?_; refine bx ?_) | (refine isl_load ?_; refine ldl ?_) | (refine isl_store ?_; refine srl ?_) | (refine isl_alloc ?_; refine all' ?_) | (refine isl_box ?_; refine bxl ?_))
        exact go_ret1 rfl rfl ⟨_, rfl, rfl, (hx2'.trans hx3).trans hx6'⟩
      | true =>
        rw [Bool.true_and]
        repeat (first | refine sp ?_ | (refine is_load ?_; refine ld ?_) | (refine is_store ?_; refine sr ?_) | (refine is_alloc ?_; refine al ?_) | (refine is_box ?_; refine bx ?_) | (refine isl_load ?_; refine ldl ?_) | (refine isl_store ?_; refine srl ?_) | (refine isl_alloc ?_; refine all' ?_) | (refine isl_box ?_; refine bxl ?_))
        refine gol_call rfl rfl (c_balanced r _ lo _ A hw (hd.ext ((hx2'.trans hx3).trans hx6')) hi.2.2.2.2 (by omega)) ?_
        rintro _ w7 ⟨rfl, hx7⟩
        refine ⟨hx6'.trans hx7, ?_⟩
        repeat (first | refine sp ?_ | (refine is_load ?_; refine ld ?_) | (refine is_store ?_; refine sr ?_) | (refine is_alloc ?_; refine al ?_) | (refine is_box ?_; refine bx ?_) | (refine isl_load ?_; refine ldl ?_) | (refine isl_store ?_; refine srl ?_) | (refine isl_alloc ?_; refine all' ?_) | (refine isl_box ?_; refine bxl ?_))
        exact go_ret1 rfl rfl ⟨_, rfl, rfl, ((hx2'.trans hx3).trans hx6').trans hx7⟩

set_option maxHeartbeats 1000000 in
theorem c_ref7CheckBad (w : World) (lo : Nat) (v : Value) (A : AR) (i : Nat) (hw : Wf A) (hd : DpAt w lo v A.dump) (h0 : i ≠ 0) (hu : A.used i = false) (hi : i < 4294967296) :
    Calls Try.prog 8 [v, .int .u32 (i : Int)].toArray w (Ret fun r w' => r = .int .i64 1 ∧ Ext w w') := by
  obtain ⟨s1, c1, s2, c2, rfl, _, _⟩ := hd.b
  have hdl := (dump_len hw).1
  have hcl : A.dump.slots.length = A.cap := by rw [dump_slots]
  have hcM := hw.capM
  refine calls_go Try.func8 rfl Try.ntmps8 (Nat.le_of_ble_eq_true rfl) ?_
  repeat (first | refine sp ?_ | (refine is_load ?_; refine ld ?_) | (refine is_store ?_; refine sr ?_) | (refine is_alloc ?_; refine al ?_) | (refine is_box ?_; refine bx ?_) | (refine isl_load ?_; refine ldl ?_) | (refine isl_store ?_; refine srl ?_) | (refine isl_alloc ?_; refine all' ?_) | (refine isl_box ?_; refine bxl ?_))
  refine go_call rfl rfl (c_Allocated _ lo _ A.dump i (hd.ext (by (repeat (first | exact Fr.refl _ _ | assumption | apply Fr.drewN | apply Fr.alloc | (apply Fr.transF; assumption) | (refine Fr.setRow ?_ _ (by first | exact Or.inr (by (first | omega | (simp; done) | (simp; omega))) | (exact Or.inl (by first | assumption | (simp; done))))))))) hdl hi) ?_
  rintro _ w1 ⟨rfl, hx1⟩
  have hx1' : Ext w w1 := Fr.trans (by (repeat (first | exact Fr.refl _ _ | assumption | apply Fr.drewN | apply Fr.alloc | (apply Fr.transF; assumption) | (refine Fr.setRow ?_ _ (by first | exact Or.inr (by (first | omega | (simp; done) | (simp; omega))) | (exact Or.inl (by first | assumption | (simp; done)))))))) hx1
  rw [dump_al hw, hu]
  repeat (first | refine sp ?_ | (refine is_load ?_; refine ld ?_) | (refine is_store ?_; refine sr ?_) | (refine is_alloc ?_; refine al ?_) | (refine is_box ?_; refine bx ?_) | (refine isl_load ?_; refine ldl ?_) | (refine isl_store ?_; refine srl ?_) | (refine isl_alloc ?_; refine all' ?_) | (refine isl_box ?_; refine bxl ?_))
  exact go_ret1 rfl rfl ⟨_, rfl, rfl, hx1'⟩

set_option maxHeartbeats 1000000 in
theorem c_ref7Check (w : World) (lo : Nat) (v : Value) (A : AR) (t : Tr) (hw : Wf A) (hd : DpAt w lo v A.dump) (hi : InA A t) (hs : t.sz ≤ 2147483647) :
    Calls Try.prog 8 [v, .int .u32 (t.root : Int)].toArray w (Ret fun r w' => (∃ E, r = .int .i64 E ∧ CkE' t E) ∧ Ext w w') := by
  obtain ⟨s1, c1, s2, c2, rfl, _, _⟩ := hd.b
  have hdl := (dump_len hw).1
  have hcl : A.dump.slots.length = A.cap := by rw [dump_slots]
  have hcM := hw.capM
  have hrt := hi.rootlt hw
  refine calls_go Try.func8 rfl Try.ntmps8 (Nat.le_of_ble_eq_true rfl) ?_
  by_cases h0 : t.root = 0
  · repeat (first | refine sp ?_ | (refine is_load ?_; refine ld ?_) | (refine is_store ?_; refine sr ?_) | (refine is_alloc ?_; refine al ?_) | (refine is_box ?_; refine bx ?_) | (refine isl_load ?_; refine ldl ?_) | (refine isl_store ?_; refine srl ?_) | (refine isl_alloc ?_; refine all' ?_) | (refine isl_box ?_; refine bxl ?_))
    obtain ⟨nb, hnb⟩ : ∃ nb, nb = w.heap.size + 1 := ⟨_, rfl⟩
    refine go_name (F := fun w3 => At w3 nb [.slice s1 A.dump.slots.length c1, .slice s2 A.dump.free.length c2, .int .i64 0, .bool false, .int .i64 ((2 * A.cap + 2 : Nat) : Int)] 79 ∧ At w3 w.heap.size [.slice s1 A.dump.slots.length c1, .slice s2 A.dump.free.length c2] 31 ∧ Ext w w3) ⟨?_, by (repeat (first | assumption | (refine At.new' (by (first | omega | (simp; done) | (simp; omega))) _ _) | apply At.alloc | apply At.drewN | apply At.setRow | (apply At.setRow_neF; first | assumption | (apply Ne.symm; assumption) | omega) | (apply At.extF; assumption))), by (repeat (first | exact Fr.refl _ _ | assumption | apply Fr.drewN | apply Fr.alloc | (apply Fr.transF; assumption) | (refine Fr.setRow ?_ _ (by first | exact Or.inr (by (first | omega | (simp; done) | (simp; omega))) | (exact Or.inl (by first | assumption | (simp; done)))))))⟩ ?_
    · rw [show ((2 * A.cap + 2 : Nat) : Int) = 2 * (A.dump.slots.length : Int) + 2 by omega, hnb]
      (repeat (first | assumption | (refine At.new' (by (first | omega | (simp; done) | (simp; omega))) _ _) | apply At.alloc | apply At.drewN | apply At.setRow | (apply At.setRow_neF; first | assumption | (apply Ne.symm; assumption) | omega) | (apply At.extF; assumption)))
    rintro w3 ⟨hk3, hb3, hx3'⟩
    rw [← hnb]
    skip
    have hl3 := hb3.lt
    have hlk := hk3.lt
    have hd3 := hd.b.fr hx3' (fun _ _ _ => id)
    refine go_call rfl rfl (c_ordered t w3 lo w.heap.size nb s1 s2 c1 c2 0 false (2 * A.cap + 2) A hw hd3 (by omega) hi (by omega) hk3) ?_
    rintro _ w4 ⟨hR4, hf4⟩
    have hb4 := hb3.fr hf4 (by omega)
    have hX4 : Ext w w4 := hx3'.trans' hf4 fun b hb e => by omega
    rcases hR4 with ⟨hls, rfl, last1, any1, ha4, hX⟩ | ⟨rfl, hn4⟩
    · have hS : SrtK t.subs := by
        have := (hX []).1 (okF_nil _ _)
        rw [List.append_nil] at this; exact this.1
      repeat (first | refine sp ?_ | (refine is_load ?_; refine ld ?_) | (refine is_store ?_; refine sr ?_) | (refine is_alloc ?_; refine al ?_) | (refine is_box ?_; refine bx ?_) | (refine isl_load ?_; refine ldl ?_) | (refine isl_store ?_; refine srl ?_) | (refine isl_alloc ?_; refine all' ?_) | (refine isl_box ?_; refine bxl ?_))
      refine go_call rfl rfl (c_balanced t w4 lo _ A hw (hd.ext hX4) hi hs) ?_
      rintro _ w5 ⟨rfl, hx5⟩
      cases hB : t.balB with
      | true =>
        repeat (first | refine sp ?_ | (refine is_load ?_; refine ld ?_) | (refine is_store ?_; refine sr ?_) | (refine is_alloc ?_; refine al ?_) | (refine is_box ?_; refine bx ?_) | (refine isl_load ?_; refine ldl ?_) | (refine isl_store ?_; refine srl ?_) | (refine isl_alloc ?_; refine all' ?_) | (refine isl_box ?_; refine bxl ?_))
        exact go_ret1 rfl rfl ⟨_, rfl, ⟨0, rfl, Or.inl ⟨hS, t.balB_iff.1 hB, rfl⟩⟩, hX4.trans hx5⟩
      | false =>
        repeat (first | refine sp ?_ | (refine is_load ?_; refine ld ?_) | (refine is_store ?_; refine sr ?_) | (refine is_alloc ?_; refine al ?_) | (refine is_box ?_; refine bx ?_) | (refine isl_load ?_; refine ldl ?_) | (refine isl_store ?_; refine srl ?_) | (refine isl_alloc ?_; refine all' ?_) | (refine isl_box ?_; refine bxl ?_))
        exact go_ret1 rfl rfl ⟨_, rfl, ⟨8, rfl, Or.inr (Or.inr ⟨hS, Tr.balB_not hB, rfl⟩)⟩, hX4.trans hx5⟩
    · repeat (first | refine sp ?_ | (refine is_load ?_; refine ld ?_) | (refine is_store ?_; refine sr ?_) | (refine is_alloc ?_; refine al ?_) | (refine is_box ?_; refine bx ?_) | (refine isl_load ?_; refine ldl ?_) | (refine isl_store ?_; refine srl ?_) | (refine isl_alloc ?_; refine all' ?_) | (refine isl_box ?_; refine bxl ?_))
      refine go_ret1 rfl rfl ⟨_, rfl, ⟨7, rfl, Or.inr (Or.inl ⟨fun hS => hn4 ⟨?_, okF_0.2 hS⟩, rfl⟩)⟩, hX4⟩
      have := hi.hM hw t.subs [] (by simp) hS
      rw [Tr.subs_len] at this
      omega
  · repeat (first | refine sp ?_ | (refine is_load ?_; refine ld ?_) | (refine is_store ?_; refine sr ?_) | (refine is_alloc ?_; refine al ?_) | (refine is_box ?_; refine bx ?_) | (refine isl_load ?_; refine ldl ?_) | (refine isl_store ?_; refine srl ?_) | (refine isl_alloc ?_; refine all' ?_) | (refine isl_box ?_; refine bxl ?_))
    refine go_name (F := fun w2 => At w2 w.heap.size [.slice s1 A.dump.slots.length c1, .slice s2 A.dump.free.length c2] 31 ∧ Ext w w2) ⟨by (repeat (first | assumption | (refine At.new' (by (first | omega | (simp; done) | (simp; omega))) _ _) | apply At.alloc | apply At.drewN | apply At.setRow | (apply At.setRow_neF; first | assumption | (apply Ne.symm; assumption) | omega) | (apply At.extF; assumption))), by (repeat (first | exact Fr.refl _ _ | assumption | apply Fr.drewN | apply Fr.alloc | (apply Fr.transF; assumption) | (refine Fr.setRow ?_ _ (by first | exact Or.inr (by (first | omega | (simp; done) | (simp; omega))) | (exact Or.inl (by first | assumption | (simp; done)))))))⟩ ?_
    rintro w1 ⟨hb1, hx1⟩
    refine go_call rfl rfl (c_Allocated _ lo _ A.dump t.root (hd.ext hx1) hdl hrt) ?_
    rintro _ w2 ⟨rfl, hx2⟩
    rw [dump_al hw, hi.used h0]
    have hb2 := hb1.ext hx2
    replace hx2 := hx1.trans hx2
    have hl2 := hb2.lt
    repeat (first | refine sp ?_ | (refine is_load ?_; refine ld ?_) | (refine is_store ?_; refine sr ?_) | (refine is_alloc ?_; refine al ?_) | (refine is_box ?_; refine bx ?_) | (refine isl_load ?_; refine ldl ?_) | (refine isl_store ?_; refine srl ?_) | (refine isl_alloc ?_; refine all' ?_) | (refine isl_box ?_; refine bxl ?_))
    obtain ⟨nb, hnb⟩ : ∃ nb, nb = w2.heap.size := ⟨_, rfl⟩
    refine go_name (F := fun w3 => At w3 nb [.slice s1 A.dump.slots.length c1, .slice s2 A.dump.free.length c2, .int .i64 0, .bool false, .int .i64 ((2 * A.cap + 2 : Nat) : Int)] 79 ∧ At w3 w.heap.size [.slice s1 A.dump.slots.length c1, .slice s2 A.dump.free.length c2] 31 ∧ Ext w2 w3) ⟨?_, by (repeat (first | assumption | (refine At.new' (by (first | omega | (simp; done) | (simp; omega))) _ _) | apply At.alloc | apply At.drewN | apply At.setRow | (apply At.setRow_neF; first | assumption | (apply Ne.symm; assumption) | omega) | (apply At.extF; assumption))), by (repeat (first | exact Fr.refl _ _ | assumption | apply Fr.drewN | apply Fr.alloc | (apply Fr.transF; assumption) | (refine Fr.setRow ?_ _ (by first | exact Or.inr (by (first | omega | (simp; done) | (simp; omega))) | (exact Or.inl (by first | assumption | (simp; done)))))))⟩ ?_
    · rw [show ((2 * A.cap + 2 : Nat) : Int) = 2 * (A.dump.slots.length : Int) + 2 by omega, hnb]
      (repeat (first | assumption | (refine At.new' (by (first | omega | (simp; done) | (simp; omega))) _ _) | apply At.alloc | apply At.drewN | apply At.setRow | (apply At.setRow_neF; first | assumption | (apply Ne.symm; assumption) | omega) | (apply At.extF; assumption)))
    rintro w3 ⟨hk3, hb3, hx3⟩
    have hx3' := hx2.trans hx3
    rw [← hnb]
    skip
    have hl3 := hb3.lt
    have hlk := hk3.lt
    have hd3 := hd.b.fr hx3' (fun _ _ _ => id)
    refine go_call rfl rfl (c_ordered t w3 lo w.heap.size nb s1 s2 c1 c2 0 false (2 * A.cap + 2) A hw hd3 (by omega) hi (by omega) hk3) ?_
    rintro _ w4 ⟨hR4, hf4⟩
    have hb4 := hb3.fr hf4 (by omega)
    have hX4 : Ext w w4 := hx3'.trans' hf4 fun b hb e => by omega
    rcases hR4 with ⟨hls, rfl, last1, any1, ha4, hX⟩ | ⟨rfl, hn4⟩
    · have hS : SrtK t.subs := by
        have := (hX []).1 (okF_nil _ _)
        rw [List.append_nil] at this; exact this.1
      repeat (first | refine sp ?_ | (refine is_load ?_; refine ld ?_) | (refine is_store ?_; refine sr ?_) | (refine is_alloc ?_; refine al ?_) | (refine is_box ?_; refine bx ?_) | (refine isl_load ?_; refine ldl ?_) | (refine isl_store ?_; refine srl ?_) | (refine isl_alloc ?_; refine all' ?_) | (refine isl_box ?_; refine bxl ?_))
      refine go_call rfl rfl (c_balanced t w4 lo _ A hw (hd.ext hX4) hi hs) ?_
      rintro _ w5 ⟨rfl, hx5⟩
      cases hB : t.balB with
      | true =>
        repeat (first | refine sp ?_ | (refine is_load ?_; refine ld ?_) | (refine is_store ?_; refine sr ?_) | (refine is_alloc ?_; refine al ?_) | (refine is_box ?_; refine bx ?_) | (refine isl_load ?_; refine ldl ?_) | (refine isl_store ?_; refine srl ?_) | (refine isl_alloc ?_; refine all' ?_) | (refine isl_box ?_; refine bxl ?_))
        exact go_ret1 rfl rfl ⟨_, rfl, ⟨0, rfl, Or.inl ⟨hS, t.balB_iff.1 hB, rfl⟩⟩, hX4.trans hx5⟩
      | false =>
        repeat (first | refine sp ?_ | (refine is_load ?_; refine ld ?_) | (refine is_store ?_; refine sr ?_) | (refine is_alloc ?_; refine al ?_) | (refine is_box ?_; refine bx ?_) | (refine isl_load ?_; refine ldl ?_) | (refine isl_store ?_; refine srl ?_) | (refine isl_alloc ?_; refine all' ?_) | (refine isl_box ?_; refine bxl ?_))
        exact go_ret1 rfl rfl ⟨_, rfl, ⟨8, rfl, Or.inr (Or.inr ⟨hS, Tr.balB_not hB, rfl⟩)⟩, hX4.trans hx5⟩
    · repeat (first | refine sp ?_ | (refine is_load ?_; refine ld ?_) | (refine is_store ?_; refine sr ?_) | (refine is_alloc ?_; refine al ?_) | (refine is_box ?_; refine bx ?_) | (refine isl_load ?_; refine ldl ?_) | (refine isl_store ?_; refine srl ?_) | (refine isl_alloc ?_; refine all' ?_) | (refine isl_box ?_; refine bxl ?_))
      refine go_ret1 rfl rfl ⟨_, rfl, ⟨7, rfl, Or.inr (Or.inl ⟨fun hS => hn4 ⟨?_, okF_0.2 hS⟩, rfl⟩)⟩, hX4⟩
      have := hi.hM hw t.subs [] (by simp) hS
      rw [Tr.subs_len] at this
      omega

/-! ### Indexes that are not allocated -/

theorem c_SCheckBad (w : World) (lo p : Nat) (q : AP) (A : AR) (i : Nat) (ha : ArP w lo p q A) (h0 : i ≠ 0) (hu : A.used i = false) (hi : i < 4294967296) :
    Calls Try.prog 10 [ptr p, .int .u32 (i : Int)].toArray w (Ret fun v w' => v = .int .i64 1 ∧ ArP w' lo p q (A.read i) ∧ Fr (fun b => b = p) w w') := by
  have hpl := ha.lt p ha.fpp
  refine calls_go Try.func10 rfl Try.ntmps10 (Nat.le_of_ble_eq_true rfl) ?_
  repeat (first | refine sp ?_ | (refine is_load ?_; refine ld ?_) | (refine is_store ?_; refine sr ?_) | (refine is_alloc ?_; refine al ?_) | (refine is_box ?_; refine bx ?_) | (refine isl_load ?_; refine ldl ?_) | (refine isl_store ?_; refine srl ?_) | (refine isl_alloc ?_; refine all' ?_) | (refine isl_box ?_; refine bxl ?_))
  refine go_call rfl rfl (p_Node w lo p q A i ha hi) ?_
  rintro _ w1 ⟨rfl, ha1, hf1⟩
  rw [hu]
  have hl1 := hf1.size
  generalize A.nodeOf i = N
  unfold Nd.cells
  repeat (first | refine sp ?_ | (refine is_load ?_; refine ld ?_) | (refine is_store ?_; refine sr ?_) | (refine is_alloc ?_; refine al ?_) | (refine is_box ?_; refine bx ?_) | (refine isl_load ?_; refine ldl ?_) | (refine isl_store ?_; refine srl ?_) | (refine isl_alloc ?_; refine all' ?_) | (refine isl_box ?_; refine bxl ?_))
  refine go_name (F := fun w2 => Ext w1 w2) (by (repeat (first | exact Fr.refl _ _ | assumption | apply Fr.drewN | apply Fr.alloc | (apply Fr.transF; assumption) | (refine Fr.setRow ?_ _ (by first | exact Or.inr (by (first | omega | (simp; done) | (simp; omega))) | (exact Or.inl (by first | assumption | (simp; done)))))))) ?_
  rintro w2 hx2
  repeat (first | refine sp ?_ | (refine is_load ?_; refine ld ?_) | (refine is_store ?_; refine sr ?_) | (refine is_alloc ?_; refine al ?_) | (refine is_box ?_; refine bx ?_) | (refine isl_load ?_; refine ldl ?_) | (refine isl_store ?_; refine srl ?_) | (refine isl_alloc ?_; refine all' ?_) | (refine isl_box ?_; refine bxl ?_))
  exact go_ret1 rfl rfl ⟨_, rfl, rfl, ha1.ext hx2, hf1.trans (Fr.of_ext hx2)⟩

theorem c_MeasureBad (w : World) (lo p : Nat) (q : AP) (A : AR) (i : Nat) (ha : ArP w lo p q A) (h0 : i ≠ 0) (hu : A.used i = false) (hi : i < 4294967296) :
    Calls Try.prog 9 [ptr p, .int .u32 (i : Int)].toArray w (Ret fun v w' => v = .tuple #[.agg ⟨[.int .i64 0, .int .i64 0]⟩, .int .i64 1] ∧ ArP w' lo p q (A.read i) ∧ Fr (fun b => b = p) w w') := by
  have hpl := ha.lt p ha.fpp
  have hfl := ha.lt
  refine calls_go Try.func9 rfl Try.ntmps9 (Nat.le_of_ble_eq_true rfl) ?_
  repeat (first | refine sp ?_ | (refine is_load ?_; refine ld ?_) | (refine is_store ?_; refine sr ?_) | (refine is_alloc ?_; refine al ?_) | (refine is_box ?_; refine bx ?_) | (refine isl_load ?_; refine ldl ?_) | (refine isl_store ?_; refine srl ?_) | (refine isl_alloc ?_; refine all' ?_) | (refine isl_box ?_; refine bxl ?_))
  refine go_call rfl rfl (c_SCheckBad _ lo p q A i (ha.ext (by (repeat (first | exact Fr.refl _ _ | assumption | apply Fr.drewN | apply Fr.alloc | (apply Fr.transF; assumption) | (refine Fr.setRow ?_ _ (by first | exact Or.inr (by (first | omega | (simp; done) | (simp; omega))) | (exact Or.inl (by first | assumption | (simp; done))))))))) h0 hu hi) ?_
  rintro _ w1 ⟨rfl, ha1, hf1⟩
  have hF1 : Fr (fun b => b = p) w w1 := Fr.trans ((Fr.refl _ _).alloc _) hf1
  have hret : At w1 w.heap.size [.int .i64 0, .int .i64 0] 36 := At.fr (At.new _ _ _) hf1 (by omega)
  have hl1 := hF1.size
  repeat (first | refine sp ?_ | (refine is_load ?_; refine ld ?_) | (refine is_store ?_; refine sr ?_) | (refine is_alloc ?_; refine al ?_) | (refine is_box ?_; refine bx ?_) | (refine isl_load ?_; refine ldl ?_) | (refine isl_store ?_; refine srl ?_) | (refine isl_alloc ?_; refine all' ?_) | (refine isl_box ?_; refine bxl ?_))
  refine go_ret2 rfl ⟨_, rfl, Ld.run (ld_part (by (repeat (first | assumption | (refine At.new' (by (first | omega | (simp; done) | (simp; omega))) _ _) | apply At.alloc | apply At.drewN | apply At.setRow | (apply At.setRow_neF; first | assumption | (apply Ne.symm; assumption) | omega) | (apply At.extF; assumption)))) rfl rfl)⟩ rfl ⟨_, rfl, rfl, ha1.fr (S := fun b => w.heap.size ≤ b) (by (repeat (first | exact Fr.refl _ _ | assumption | apply Fr.drewN | apply Fr.alloc | (apply Fr.transF; assumption) | (refine Fr.setRow ?_ _ (by first | exact Or.inr (by (first | omega | (simp; done) | (simp; omega))) | (exact Or.inl (by first | assumption | (simp; done)))))))) (fun b hb e => by have := hfl b hb; omega), hF1.trans' (S' := fun b => w.heap.size ≤ b) (by (repeat (first | exact Fr.refl _ _ | assumption | apply Fr.drewN | apply Fr.alloc | (apply Fr.transF; assumption) | (refine Fr.setRow ?_ _ (by first | exact Or.inr (by (first | omega | (simp; done) | (simp; omega))) | (exact Or.inl (by first | assumption | (simp; done)))))))) fun b hb e => by omega⟩

end Go.Proofs.Ytfaeboamjfdjlaa
