/-
  The reference's list of a tree, off a dump; two equal lists of entries.
-/
import Derived.Test.YtklgmomhdlhajaaDn
import Derived.Test.YtklgmomhdlhajaaTa
import Derived.Test.YtklgmomhdlhajaaLi
import Derived.Test.YtklgmomhdlhajaaGt
set_option linter.unusedVariables false
namespace Go.Proofs.Ytklgmomhdlhajaa
open Go.Vc

theorem Own.lower' {w : World} {lo lo' : Nat} {e : TypeId} {m n : Nat} {v : Value} {xs : List Value} (h : Own w lo e m v n xs) (hl : lo' ≤ lo) : Own w lo' e m v n xs := by
  refine ⟨h.1, ?_⟩
  rcases h.2 with h2 | ⟨g, cap, cur, hv, hg, r⟩
  · exact Or.inl h2
  · exact Or.inr ⟨g, cap, cur, hv, Nat.le_trans hl hg, r⟩
theorem ent_one (k : List (Int × Int)) (u : Value) : u ∈ k.flatMap entC → u.oneCell' = true := by
  intro hu
  obtain ⟨e, _, hu⟩ := List.mem_flatMap.1 hu
  simp only [entC, List.mem_cons, List.not_mem_nil, or_false] at hu
  rcases hu with rfl | rfl <;> rfl
theorem ent_fl (k : List (Int × Int)) : (k.flatMap entC).length = k.length * 2 := flatMap_len (enc := entC) (m := 2) (fun _ => rfl) k
theorem Tr.ents_len : ∀ t : Tr, t.ents.length = t.sz
  | .nil => rfl
  | .nd i l k v r => by
    have h1 := Tr.ents_len l
    have h2 := Tr.ents_len r
    show (l.ents ++ (k, v) :: r.ents).length = l.sz + 1 + r.sz
    rw [List.length_append, List.length_cons, h1, h2]; omega

set_option maxHeartbeats 4000000 in
theorem c_ref7List : ∀ (t : Tr) (w : World) (lo : Nat) (v : Value) (A : AR), Wf A → DpAt w lo v A.dump → InA A t → t.sz ≤ 1000000 →
    Calls Try.prog 41 [v, .int .u32 (t.root : Int)].toArray w (Ret fun r w' => OwnE w' w.heap.size r t.ents ∧ Ext w w')
  | .nil, w, lo, v, A, hw, hd, hi, hH => by
    obtain ⟨s1, c1, s2, c2, rfl, _, _⟩ := hd.b
    refine calls_go Try.func41 rfl Try.ntmps41 (Nat.le_of_ble_eq_true rfl) ?_
    repeat (first | refine sp ?_ | (refine is_load ?_; refine ld ?_) | (refine is_store ?_; refine sr ?_) | (refine is_alloc ?_; refine al ?_) | (refine is_box ?_; refine bx ?_) | (refine isl_load ?_; refine ldl ?_) | (refine isl_store ?_; refine srl ?_) | (refine isl_alloc ?_; refine all' ?_) | (refine isl_box ?_; refine bxl ?_))
    exact go_ret1 rfl rfl ⟨_, rfl, Own.nil _ _ _ _, by (repeat (first | exact Fr.refl _ _ | assumption | apply Fr.drewN | apply Fr.alloc | (apply Fr.transF; assumption) | (refine Fr.setRow ?_ _ (by first | exact Or.inr (by (first | omega | (simp; done) | (simp; omega))) | (exact Or.inl (by first | assumption | (simp; done)))))))⟩
  | .nd i l k v0 r, w, lo, v, A, hw, hd, hi, hH => by
    have hhd : (Tr.nd i l k v0 r).sz = l.sz + 1 + r.sz := rfl
    obtain ⟨hri, hrl, hrr⟩ := hi.roots hw
    have h0 : i ≠ 0 := by have := hi.1; omega
    have hkn : A.nodeOf i = mkN A k v0 l.root r.root := hi.nodeOf
    have hlr := mkN_lr A k v0 l.root r.root
    rw [← hkn] at hlr
    have hdl := (dump_len hw).1
    obtain ⟨s1, c1, s2, c2, rfl, _, _⟩ := hd.b
    rw [show (Tr.nd i l k v0 r).root = i from rfl]
    refine calls_go Try.func41 rfl Try.ntmps41 (Nat.le_of_ble_eq_true rfl) ?_
    repeat (first | refine sp ?_ | (refine is_load ?_; refine ld ?_) | (refine is_store ?_; refine sr ?_) | (refine is_alloc ?_; refine al ?_) | (refine is_box ?_; refine bx ?_) | (refine isl_load ?_; refine ldl ?_) | (refine isl_store ?_; refine srl ?_) | (refine isl_alloc ?_; refine all' ?_) | (refine isl_box ?_; refine bxl ?_))
    refine go_name (F := fun w1 => At w1 w.heap.size [.slice s1 A.dump.slots.length c1, .slice s2 A.dump.free.length c2] 49 ∧ Ext w w1) ⟨by (repeat (first | assumption | (refine At.new' (by (first | omega | (simp; done) | (simp; omega))) _ _) | apply At.alloc | apply At.drewN | apply At.setRow | (apply At.setRow_neF; first | assumption | (apply Ne.symm; assumption) | omega) | (apply At.extF; assumption))), by (repeat (first | exact Fr.refl _ _ | assumption | apply Fr.drewN | apply Fr.alloc | (apply Fr.transF; assumption) | (refine Fr.setRow ?_ _ (by first | exact Or.inr (by (first | omega | (simp; done) | (simp; omega))) | (exact Or.inl (by first | assumption | (simp; done)))))))⟩ ?_
    rintro w1 ⟨hb1, hx1⟩
    refine go_call rfl rfl (c_ref7node w1 lo _ A.dump i (hd.ext hx1) hdl hri) ?_
    rintro _ w2 ⟨rfl, hx2⟩
    have hb2 := hb1.ext hx2
    have hx2' := hx1.trans hx2
    have hl2 := hb2.lt
    rw [dump_nd hw]
    obtain ⟨N, hN⟩ : ∃ N, A.nodeOf i = N := ⟨_, rfl⟩
    rw [hN] at hlr ⊢
    unfold Nd.cells
    rw [hlr.2.2.1, hlr.2.2.2, hlr.1, hlr.2.1]
    repeat (first | refine sp ?_ | (refine is_load ?_; refine ld ?_) | (refine is_store ?_; refine sr ?_) | (refine is_alloc ?_; refine al ?_) | (refine is_box ?_; refine bx ?_) | (refine isl_load ?_; refine ldl ?_) | (refine isl_store ?_; refine srl ?_) | (refine isl_alloc ?_; refine all' ?_) | (refine isl_box ?_; refine bxl ?_))
    refine go_name (F := fun w3 => At w3 w2.heap.size [.int .i64 k, .int .i64 v0, .int .u32 (l.root : Int), .int .u32 (r.root : Int), .int .i64 N.size, .int .i64 N.sum, .int .i64 N.mn, .int .i64 N.mx] 64 ∧ At w3 w.heap.size [.slice s1 A.dump.slots.length c1, .slice s2 A.dump.free.length c2] 49 ∧ Ext w2 w3) ⟨by (repeat (first | assumption | (refine At.new' (by (first | omega | (simp; done) | (simp; omega))) _ _) | apply At.alloc | apply At.drewN | apply At.setRow | (apply At.setRow_neF; first | assumption | (apply Ne.symm; assumption) | omega) | (apply At.extF; assumption))), by (repeat (first | assumption | (refine At.new' (by (first | omega | (simp; done) | (simp; omega))) _ _) | apply At.alloc | apply At.drewN | apply At.setRow | (apply At.setRow_neF; first | assumption | (apply Ne.symm; assumption) | omega) | (apply At.extF; assumption))), by (repeat (first | exact Fr.refl _ _ | assumption | apply Fr.drewN | apply Fr.alloc | (apply Fr.transF; assumption) | (refine Fr.setRow ?_ _ (by first | exact Or.inr (by (first | omega | (simp; done) | (simp; omega))) | (exact Or.inl (by first | assumption | (simp; done)))))))⟩ ?_
    rintro w3 ⟨hat, hb3, hx3⟩
    have hll := Tr.ents_len l
    have hrl' := Tr.ents_len r
    have hlt3 := hat.lt
    have hx3f : Ext w w3 := hx2'.trans hx3
    have hs3 := hx3f.size
    refine go_sched (Fr (fun _ => False) w3) (.op 0 (.op 1 (.op 2 (.op 4 (.op 5 (.op 6 (.op 7 (.op 8 (.alt 3 (.op 9 (.op 10 (.op 11 (.fin)))) (.op 9 (.op 3 (.op 10 (.op 11 (.fin)))))))))))))) Try.follows (by kernel_rfl) (by kernel_rfl) (by kernel_rfl) ((Fr.refl _ _).drewN 1) ?_
    refine go_op rfl ?_
    refine isl_load ?_; refine ldl ?_
    refine gol_nil ?_
    refine go_op rfl ?_
    refine sp ?_
    refine gol_nil ?_
    refine go_op rfl ?_
    refine isl_load ?_; refine ldl ?_
    refine gol_nil ?_
    refine go_op rfl ?_
    refine sp ?_
    refine gol_nil ?_
    refine go_op rfl ?_
    refine isl_load ?_; refine ldl ?_
    refine gol_nil ?_
    refine go_op rfl ?_
    refine sp ?_
    refine gol_nil ?_
    refine go_op rfl ?_
    refine isl_load ?_; refine ldl ?_
    refine gol_nil ?_
    refine go_op rfl ?_
    refine sp ?_
    refine gol_nil ?_
    refine go_alt rfl ?_ ?_
    · refine gol_call rfl rfl (c_ref7List l _ lo _ A hw (hd.ext (hx3f.trans (by (repeat (first | exact Fr.refl _ _ | assumption | apply Fr.drewN | apply Fr.alloc | (apply Fr.transF; assumption) | (refine Fr.setRow ?_ _ (by first | exact Or.inr (by (first | omega | (simp; done) | (simp; omega))) | (exact Or.inl (by first | assumption | (simp; done)))))))))) hi.2.2.2.1 (by omega)) ?_
      rintro v4 w4 ⟨ho4, hx4⟩
      unfold OwnE at ho4
      have hs4 := hx4.size
      try simp at hs4
      have hx4' : Ext w3 w4 := Fr.trans (by (repeat (first | exact Fr.refl _ _ | assumption | apply Fr.drewN | apply Fr.alloc | (apply Fr.transF; assumption) | (refine Fr.setRow ?_ _ (by first | exact Or.inr (by (first | omega | (simp; done) | (simp; omega))) | (exact Or.inl (by first | assumption | (simp; done)))))))) hx4
      refine ⟨hx4', ?_⟩
      refine gol_nil ?_
      refine go_op rfl ?_
      refine gol_litG (l := [.int .i64 k, .int .i64 v0]) rfl rfl (by decide) (by decide) rfl (by show Ext w3 _; (repeat (first | exact Fr.refl _ _ | assumption | apply Fr.drewN | apply Fr.alloc | (apply Fr.transF; assumption) | (refine Fr.setRow ?_ _ (by first | exact Or.inr (by (first | omega | (simp; done) | (simp; omega))) | (exact Or.inl (by first | assumption | (simp; done)))))))) ?_
      refine gol_nil ?_
      refine go_op rfl ?_
      have hx5 : Ext w4 (w4.alloc (.cells [Value.int .i64 k, .int .i64 v0].toArray 53)) := by (repeat (first | exact Fr.refl _ _ | assumption | apply Fr.drewN | apply Fr.alloc | (apply Fr.transF; assumption) | (refine Fr.setRow ?_ _ (by first | exact Or.inr (by (first | omega | (simp; done) | (simp; omega))) | (exact Or.inl (by first | assumption | (simp; done)))))))
      have hlt5 := At.new w4 [Value.int .i64 k, .int .i64 v0] 53
      refine gol_appendG (r := 1) (sa := some ⟨w4.heap.size, 0, none⟩) (news := [.int .i64 k, .int .i64 v0]) (by decide) rfl rfl rfl (ho4.ext hx5) (by
        intro j u hj
        exact ⟨_, _, rfl, by have := hlt5.cell (i := j) (v := u) hj; simpa using this⟩) rfl (by intro u hu; simp at hu; rcases hu with rfl | rfl <;> rfl) (by simp [maxLen]; omega) (by omega) (by simp; omega) ?_
      intro v6 w6 ho6 hg6 _
      have hx6 : Ext w3 w6 := ext_grown (hx4'.trans hx5) (by simp) (ho4.ext hx5) hg6
      refine ⟨hx6, ?_⟩
      have ho6 := Own.lower' (lo' := w.heap.size) ho6 (by simp; omega)
      refine gol_nil ?_
      refine go_op rfl ?_
      refine sp ?_
      refine gol_nil ?_
      refine go_fin ?_
      have hat6 := hat.ext hx6
      have hb6 := hb3.ext hx6
      have hlt6 := hat6.lt
      have hx6' := hx3f.trans hx6
      have hs6 := hx6'.size
      repeat (first | refine sp ?_ | (refine is_load ?_; refine ld ?_) | (refine is_store ?_; refine sr ?_) | (refine is_alloc ?_; refine al ?_) | (refine is_box ?_; refine bx ?_) | (refine isl_load ?_; refine ldl ?_) | (refine isl_store ?_; refine srl ?_) | (refine isl_alloc ?_; refine all' ?_) | (refine isl_box ?_; refine bxl ?_))
      refine go_call rfl rfl (c_ref7List r w6 lo _ A hw (hd.ext hx6') hi.2.2.2.2 (by omega)) ?_
      rintro v7 w7 ⟨ho7, hx7⟩
      unfold OwnE at ho7
      have hs7 := hx7.size
      obtain ⟨sa7, cap7, rfl, _, hr7⟩ := ho7.slice
      repeat (first | refine sp ?_ | (refine is_load ?_; refine ld ?_) | (refine is_store ?_; refine sr ?_) | (refine is_alloc ?_; refine al ?_) | (refine is_box ?_; refine bx ?_) | (refine isl_load ?_; refine ldl ?_) | (refine isl_store ?_; refine srl ?_) | (refine isl_alloc ?_; refine all' ?_) | (refine isl_box ?_; refine bxl ?_))
      refine go_appendG (r := r.ents.length) (by decide) rfl rfl rfl (ho6.ext hx7) hr7 (ent_fl _) (ent_one _) (by simp [maxLen]; omega) (by omega) (by omega) ?_
      intro v8 w8 ho8 hg8 _
      have hx8 : Ext w w8 := ext_grown (hx6'.trans hx7) (by omega) (ho6.ext hx7) hg8
      repeat (first | refine sp ?_ | (refine is_load ?_; refine ld ?_) | (refine is_store ?_; refine sr ?_) | (refine is_alloc ?_; refine al ?_) | (refine is_box ?_; refine bx ?_) | (refine isl_load ?_; refine ldl ?_) | (refine isl_store ?_; refine srl ?_) | (refine isl_alloc ?_; refine all' ?_) | (refine isl_box ?_; refine bxl ?_))
      refine go_ret1 rfl rfl ⟨_, rfl, ?_, hx8⟩
      have e : OwnE w8 w.heap.size v8 (l.ents ++ (k, v0) :: r.ents) := by
        unfold OwnE
        rw [show (l.ents ++ (k, v0) :: r.ents).length = l.ents.length + 1 + r.ents.length by simp; omega, List.flatMap_append, List.flatMap_cons, ← List.append_assoc]
        exact ho8
      exact e
    · refine go_op rfl ?_
      refine gol_litG (l := [.int .i64 k, .int .i64 v0]) rfl rfl (by decide) (by decide) rfl (by show Ext w3 _; (repeat (first | exact Fr.refl _ _ | assumption | apply Fr.drewN | apply Fr.alloc | (apply Fr.transF; assumption) | (refine Fr.setRow ?_ _ (by first | exact Or.inr (by (first | omega | (simp; done) | (simp; omega))) | (exact Or.inl (by first | assumption | (simp; done)))))))) ?_
      refine gol_nil ?_
      refine go_op rfl ?_
      have hlt4 := At.new (w3.drewN 1) [Value.int .i64 k, .int .i64 v0] 53
      refine gol_call rfl rfl (c_ref7List l _ lo _ A hw (hd.ext (hx3f.trans (by (repeat (first | exact Fr.refl _ _ | assumption | apply Fr.drewN | apply Fr.alloc | (apply Fr.transF; assumption) | (refine Fr.setRow ?_ _ (by first | exact Or.inr (by (first | omega | (simp; done) | (simp; omega))) | (exact Or.inl (by first | assumption | (simp; done)))))))))) hi.2.2.2.1 (by omega)) ?_
      rintro v4 w4 ⟨ho4, hx4⟩
      unfold OwnE at ho4
      have hs4 := hx4.size
      try simp at hs4
      have hx4' : Ext w3 w4 := Fr.trans (by (repeat (first | exact Fr.refl _ _ | assumption | apply Fr.drewN | apply Fr.alloc | (apply Fr.transF; assumption) | (refine Fr.setRow ?_ _ (by first | exact Or.inr (by (first | omega | (simp; done) | (simp; omega))) | (exact Or.inl (by first | assumption | (simp; done)))))))) hx4
      refine ⟨hx4', ?_⟩
      refine gol_nil ?_
      refine go_op rfl ?_
      have hlt5 := hlt4.ext hx4
      refine gol_appendG (r := 1) (sa := some ⟨(w3.drewN 1).heap.size, 0, none⟩) (news := [.int .i64 k, .int .i64 v0]) (by decide) rfl rfl rfl ho4 (by
        intro j u hj
        exact ⟨_, _, rfl, by have := hlt5.cell (i := j) (v := u) hj; simpa using this⟩) rfl (by intro u hu; simp at hu; rcases hu with rfl | rfl <;> rfl) (by simp [maxLen]; omega) (by omega) (by simp; omega) ?_
      intro v6 w6 ho6 hg6 _
      have hx6 : Ext w3 w6 := ext_grown (hx4') (by simp) ho4 hg6
      refine ⟨hx6, ?_⟩
      have ho6 := Own.lower' (lo' := w.heap.size) ho6 (by simp; omega)
      refine gol_nil ?_
      refine go_op rfl ?_
      refine sp ?_
      refine gol_nil ?_
      refine go_fin ?_
      have hat6 := hat.ext hx6
      have hb6 := hb3.ext hx6
      have hlt6 := hat6.lt
      have hx6' := hx3f.trans hx6
      have hs6 := hx6'.size
      repeat (first | refine sp ?_ | (refine is_load ?_; refine ld ?_) | (refine is_store ?_; refine sr ?_) | (refine is_alloc ?_; refine al ?_) | (refine is_box ?_; refine bx ?_) | (refine isl_load ?_; refine ldl ?_) | (refine isl_store ?_; refine srl ?_) | (refine isl_alloc ?_; refine all' ?_) | (refine isl_box ?_; refine bxl ?_))
      refine go_call rfl rfl (c_ref7List r w6 lo _ A hw (hd.ext hx6') hi.2.2.2.2 (by omega)) ?_
      rintro v7 w7 ⟨ho7, hx7⟩
      unfold OwnE at ho7
      have hs7 := hx7.size
      obtain ⟨sa7, cap7, rfl, _, hr7⟩ := ho7.slice
      repeat (first | refine sp ?_ | (refine is_load ?_; refine ld ?_) | (refine is_store ?_; refine sr ?_) | (refine is_alloc ?_; refine al ?_) | (refine is_box ?_; refine bx ?_) | (refine isl_load ?_; refine ldl ?_) | (refine isl_store ?_; refine srl ?_) | (refine isl_alloc ?_; refine all' ?_) | (refine isl_box ?_; refine bxl ?_))
      refine go_appendG (r := r.ents.length) (by decide) rfl rfl rfl (ho6.ext hx7) hr7 (ent_fl _) (ent_one _) (by simp [maxLen]; omega) (by omega) (by omega) ?_
      intro v8 w8 ho8 hg8 _
      have hx8 : Ext w w8 := ext_grown (hx6'.trans hx7) (by omega) (ho6.ext hx7) hg8
      repeat (first | refine sp ?_ | (refine is_load ?_; refine ld ?_) | (refine is_store ?_; refine sr ?_) | (refine is_alloc ?_; refine al ?_) | (refine is_box ?_; refine bx ?_) | (refine isl_load ?_; refine ldl ?_) | (refine isl_store ?_; refine srl ?_) | (refine isl_alloc ?_; refine all' ?_) | (refine isl_box ?_; refine bxl ?_))
      refine go_ret1 rfl rfl ⟨_, rfl, ?_, hx8⟩
      have e : OwnE w8 w.heap.size v8 (l.ents ++ (k, v0) :: r.ents) := by
        unfold OwnE
        rw [show (l.ents ++ (k, v0) :: r.ents).length = l.ents.length + 1 + r.ents.length by simp; omega, List.flatMap_append, List.flatMap_cons, ← List.append_assoc]
        exact ho8
      exact e

theorem c_Same (w : World) (hi1 hi2 : Nat) (v1 v2 : Value) (l : List (Int × Int)) (h1 : RdU w hi1 v1 entC l) (h2 : RdU w hi2 v2 entC l) (hl : l.length ≤ 1000000) :
    Calls Try.prog 40 [v1, v2].toArray w (Ret fun r w' => r = .bool true ∧ Ext w w') := by
  have h10 := h1
  obtain ⟨s1, c1, rfl, hc1, _, _⟩ := h10
  have h20 := h2
  obtain ⟨s2, c2, rfl, hc2, _, _⟩ := h20
  refine calls_go Try.func40 rfl Try.ntmps40 (Nat.le_of_ble_eq_true rfl) ?_
  repeat (first | refine sp ?_ | (refine is_load ?_; refine ld ?_) | (refine is_store ?_; refine sr ?_) | (refine is_alloc ?_; refine al ?_) | (refine is_box ?_; refine bx ?_) | (refine isl_load ?_; refine ldl ?_) | (refine isl_store ?_; refine srl ?_) | (refine isl_alloc ?_; refine all' ?_) | (refine isl_box ?_; refine bxl ?_) | refine dr Try.follows ?_)
  refine go_loop (G := Nat) [5] (fun k => [.int .i64 (k : Int)]) [(0, .slice s1 l.length c1), (1, .slice s2 l.length c2)]
    (fun k w' => k ≤ l.length ∧ Ext w w') (fun k => l.length - k) 0 rfl ⟨rfl, rfl, trivial⟩ ⟨by omega, by (repeat (first | exact Fr.refl _ _ | assumption | apply Fr.drewN | apply Fr.alloc | (apply Fr.transF; assumption) | (refine Fr.setRow ?_ _ (by first | exact Or.inr (by (first | omega | (simp; done) | (simp; omega))) | (exact Or.inl (by first | assumption | (simp; done)))))))⟩ ?_
  rintro k w1 ⟨hk, hx⟩
  by_cases hlt : k < l.length
  · obtain ⟨b, o, e, _, hcell⟩ := (h1.ext hx).at (m := 2) (fun _ => rfl) (by omega) hlt
    subst e
    obtain ⟨b2, o2, e, _, hcell2⟩ := (h2.ext hx).at (m := 2) (fun _ => rfl) (by omega) hlt
    subst e
    generalize l[k] = x at *
    repeat (first | refine sp ?_ | (refine is_load ?_; refine ld ?_) | (refine is_store ?_; refine sr ?_) | (refine is_alloc ?_; refine al ?_) | (refine is_box ?_; refine bx ?_) | (refine isl_load ?_; refine ldl ?_) | (refine isl_store ?_; refine srl ?_) | (refine isl_alloc ?_; refine all' ?_) | (refine isl_box ?_; refine bxl ?_) | refine dr Try.follows ?_)
    refine gol_load (v := .agg (entC x).toArray) rfl rfl (ldD_cells (m := 2) (w := w1) rfl (by decide) (fun j u hj => by rw [addr_add]; exact hcell j u hj) id) ?_
    repeat (first | refine sp ?_ | (refine is_load ?_; refine ld ?_) | (refine is_store ?_; refine sr ?_) | (refine is_alloc ?_; refine al ?_) | (refine is_box ?_; refine bx ?_) | (refine isl_load ?_; refine ldl ?_) | (refine isl_store ?_; refine srl ?_) | (refine isl_alloc ?_; refine all' ?_) | (refine isl_box ?_; refine bxl ?_) | refine dr Try.follows ?_)
    refine gol_load (v := .agg (entC x).toArray) rfl rfl (ldD_cells (m := 2) (w := w1) rfl (by decide) (fun j u hj => by rw [addr_add]; exact hcell2 j u hj) id) ?_
    unfold entC
    repeat (first | refine sp ?_ | (refine is_load ?_; refine ld ?_) | (refine is_store ?_; refine sr ?_) | (refine is_alloc ?_; refine al ?_) | (refine is_box ?_; refine bx ?_) | (refine isl_load ?_; refine ldl ?_) | (refine isl_store ?_; refine srl ?_) | (refine isl_alloc ?_; refine all' ?_) | (refine isl_box ?_; refine bxl ?_) | refine dr Try.follows ?_)
    refine go_as 25 (u' := .bool false) rfl (by simp [eqL]) ?_
    repeat (first | refine sp ?_ | (refine is_load ?_; refine ld ?_) | (refine is_store ?_; refine sr ?_) | (refine is_alloc ?_; refine al ?_) | (refine is_box ?_; refine bx ?_) | (refine isl_load ?_; refine ldl ?_) | (refine isl_store ?_; refine srl ?_) | (refine isl_alloc ?_; refine all' ?_) | (refine isl_box ?_; refine bxl ?_) | refine dr Try.follows ?_)
    exact go_stop (G := Nat) (k + 1) rfl ⟨rfl, rfl, trivial⟩ ⟨hlt, by (repeat (first | exact Fr.refl _ _ | assumption | apply Fr.drewN | apply Fr.alloc | (apply Fr.transF; assumption) | (refine Fr.setRow ?_ _ (by first | exact Or.inr (by (first | omega | (simp; done) | (simp; omega))) | (exact Or.inl (by first | assumption | (simp; done)))))))⟩ (by show l.length - (k + 1) < l.length - k; omega)
  · repeat (first | refine sp ?_ | (refine is_load ?_; refine ld ?_) | (refine is_store ?_; refine sr ?_) | (refine is_alloc ?_; refine al ?_) | (refine is_box ?_; refine bx ?_) | (refine isl_load ?_; refine ldl ?_) | (refine isl_store ?_; refine srl ?_) | (refine isl_alloc ?_; refine all' ?_) | (refine isl_box ?_; refine bxl ?_) | refine dr Try.follows ?_)
    exact go_ret1 rfl rfl ⟨_, rfl, rfl, hx⟩

end Go.Proofs.Ytklgmomhdlhajaa
