/-
  Rotating there and back.
-/
import Derived.Test.YtklgmomhdlhajaaRi
set_option linter.unusedVariables false
namespace Go.Proofs.Ytklgmomhdlhajaa
open Go.Vc

set_option maxHeartbeats 8000000 in
theorem c_LawBack (lv : Value) (l : List (Int × Int)) (tilt : Int) (right : Bool) (w : World) (h : Rd w 0 lv entC l) (he : InE l) (hlen : l.length ≤ 9223372036854775807) (ht : 0 ≤ tilt ∧ tilt ≤ 18446744073709551615) :
    Calls Try.prog 12 [lv, .int .u64 tilt, .bool right].toArray w (Ret fun v w' => v = .bool true ∧ Ext w w') := by
  refine calls_go Try.func12 rfl Try.ntmps12 (Nat.le_of_ble_eq_true rfl) ?_
  repeat (first | refine sp ?_ | (refine is_load ?_; refine ld ?_) | (refine is_store ?_; refine sr ?_) | (refine is_alloc ?_; refine al ?_) | (refine is_box ?_; refine bx ?_) | (refine isl_load ?_; refine ldl ?_) | (refine isl_store ?_; refine srl ?_) | (refine isl_alloc ?_; refine all' ?_) | (refine isl_box ?_; refine bxl ?_))
  refine go_call rfl rfl (c_List w lv l 60 h.up he hlen (by omega)) ?_
  rintro v1 w1 ⟨a, ha, hok, hx1⟩
  obtain ⟨sa, cap, rfl, hlc, _, _⟩ := ha
  have ha : RdU w1 w1.heap.size (.slice sa a.length cap) entC a := ⟨sa, cap, rfl, hlc, by assumption, by assumption⟩
  repeat (first | refine sp ?_ | (refine is_load ?_; refine ld ?_) | (refine is_store ?_; refine sr ?_) | (refine is_alloc ?_; refine al ?_) | (refine is_box ?_; refine bx ?_) | (refine isl_load ?_; refine ldl ?_) | (refine isl_store ?_; refine srl ?_) | (refine isl_alloc ?_; refine all' ?_) | (refine isl_box ?_; refine bxl ?_))
  refine go_call rfl rfl (c_GrowT w w1 a 60 _ tilt 4 ha hok (by omega) (by omega) (by omega) ht hx1) ?_
  rintro _ w2 ⟨lo, p, q, B, t, rfl, g, hen, hsz, hre, hcp, hpb, hx2, hfree⟩
  repeat (first | refine sp ?_ | (refine is_load ?_; refine ld ?_) | (refine is_store ?_; refine sr ?_) | (refine is_alloc ?_; refine al ?_) | (refine is_box ?_; refine bx ?_) | (refine isl_load ?_; refine ldl ?_) | (refine isl_store ?_; refine srl ?_) | (refine isl_alloc ?_; refine all' ?_) | (refine isl_box ?_; refine bxl ?_))
  refine go_call rfl rfl (c_awake12 w2) ?_
  rintro _ w3 ⟨rfl, hx3⟩
  have g3 := g.step hx3
  have gA : Ars w3 lo p q B (fun i => eq01 t.root i) := ⟨g3.ar, g3.snd, g3.lof.2.1, g3.lof.1⟩
  have hb1 : ∀ i, eq01 t.root i ≤ 1 := fun i => by unfold eq01; split <;> omega
  have hb3 : ∀ i, eq01 t.root i ≤ 1000000 := fun i => by have := hb1 i; omega
  have hrt : t.root = 0 ∨ B.used t.root = true := g3.inA.or
  cases right with
  | false =>
    have hk1 : (0 : Nat) < 4 := by omega
    repeat (first | refine sp ?_ | (refine is_load ?_; refine ld ?_) | (refine is_store ?_; refine sr ?_) | (refine is_alloc ?_; refine al ?_) | (refine is_box ?_; refine bx ?_) | (refine isl_load ?_; refine ldl ?_) | (refine isl_store ?_; refine srl ?_) | (refine isl_alloc ?_; refine all' ?_) | (refine isl_box ?_; refine bxl ?_))
    refine go_call rfl rfl (c_call w3 lo p q B _ t.root 0 gA hb3 (used_lt g3.ar.wf hrt) (by omega)) ?_
    rintro v4 w4 (⟨hF4, _, q4, R, o, rfl, g4, kp4, hfr4, ⟨j, n1, n2⟩, hq4, hf4⟩ | ⟨E, B', rfl, (⟨rfl, hn⟩ | ⟨_, _, hn⟩), g4, r4, hf4⟩)
    rotate_left
    · have hx4 : Ext w w4 := g3.ext.trans' hf4 fun b hb e => by have := gA.lof b e; have := g3.lof.2.2; omega
      repeat (first | refine sp ?_ | (refine is_load ?_; refine ld ?_) | (refine is_store ?_; refine sr ?_) | (refine is_alloc ?_; refine al ?_) | (refine is_box ?_; refine bx ?_) | (refine isl_load ?_; refine ldl ?_) | (refine isl_store ?_; refine srl ?_) | (refine isl_alloc ?_; refine all' ?_) | (refine isl_box ?_; refine bxl ?_))
      exact go_ret1 rfl rfl ⟨_, rfl, rfl, hx4⟩
    · have hn : B.free < 2 := hn
      omega
    have hx4 : Ext w w4 := g3.ext.trans' hf4 fun b hb e => by have := gA.lof b e; have := g3.lof.2.2; omega
    have hF4 : fL B t.root := hF4
    have hfr4 : R.free + 2 = B.free := hfr4
    have hb4 : ∀ i, addH (fun i => eq01 t.root i) o i ≤ 1000000 := fun i => by have := hb3 i; have := hb1 i; have := addH_le (h := fun i => eq01 t.root i) hb1 (k := o) i; omega
    have hlo := used_lt g4.ar.wf (Or.inr n1.use)
    repeat (first | refine sp ?_ | (refine is_load ?_; refine ld ?_) | (refine is_store ?_; refine sr ?_) | (refine is_alloc ?_; refine al ?_) | (refine is_box ?_; refine bx ?_) | (refine isl_load ?_; refine ldl ?_) | (refine isl_store ?_; refine srl ?_) | (refine isl_alloc ?_; refine all' ?_) | (refine isl_box ?_; refine bxl ?_))
    refine go_call rfl rfl (c_call w4 lo p q4 R _ o 1 g4 hb4 hlo (by omega)) ?_
    have hF5 : fR R o := ⟨n1.use, by rw [n1.left]; exact n2.use⟩
    rintro v5 w5 (⟨_, _, q5, R2, o2, rfl, g5, kp5, hfr5, ⟨j2, m1, m2⟩, hq5, hf5⟩ | ⟨E, B', rfl, (⟨_, hn⟩ | ⟨_, _, hn⟩), _⟩)
    rotate_left
    · exact absurd hF5 hn
    · have hn : R.free < 2 := hn
      omega
    have hx5 : Ext w w5 := hx4.trans' hf5 fun b hb e => by have := g4.lof b e; have := g3.lof.2.2; omega
    have hlo2 := used_lt g5.ar.wf (Or.inr m1.use)
    repeat (first | refine sp ?_ | (refine is_load ?_; refine ld ?_) | (refine is_store ?_; refine sr ?_) | (refine is_alloc ?_; refine al ?_) | (refine is_box ?_; refine bx ?_) | (refine isl_load ?_; refine ldl ?_) | (refine isl_store ?_; refine srl ?_) | (refine isl_alloc ?_; refine all' ?_) | (refine isl_box ?_; refine bxl ?_))
    refine go_call rfl rfl (p_Dump w5 lo p q5 R2 g5.ar) ?_
    rintro _ w6 ⟨hd6, hx6⟩
    obtain ⟨s1, c1, s2, c2, rfl, _, _⟩ := hd6.b
    have hdl := (dump_len g5.ar.wf).1
    repeat (first | refine sp ?_ | (refine is_load ?_; refine ld ?_) | (refine is_store ?_; refine sr ?_) | (refine is_alloc ?_; refine al ?_) | (refine is_box ?_; refine bx ?_) | (refine isl_load ?_; refine ldl ?_) | (refine isl_store ?_; refine srl ?_) | (refine isl_alloc ?_; refine all' ?_) | (refine isl_box ?_; refine bxl ?_))
    refine go_name (F := fun w7 => At w7 w6.heap.size [.slice s1 R2.dump.slots.length c1, .slice s2 R2.dump.free.length c2] 49 ∧ Ext w6 w7) ⟨by (repeat (first | assumption | (refine At.new' (by (first | omega | (simp; done) | (simp; omega))) _ _) | apply At.alloc | apply At.drewN | apply At.setRow | (apply At.setRow_neF; first | assumption | (apply Ne.symm; assumption) | omega) | (apply At.extF; assumption))), by (repeat (first | exact Fr.refl _ _ | assumption | apply Fr.drewN | apply Fr.alloc | (apply Fr.transF; assumption) | (refine Fr.setRow ?_ _ (by first | exact Or.inr (by (first | omega | (simp; done) | (simp; omega))) | (exact Or.inl (by first | assumption | (simp; done)))))))⟩ ?_
    rintro w7 ⟨hbd, hx7⟩
    have hd7 := hd6.ext hx7
    have hrR : t.root = 0 ∨ R2.used t.root = true := hrt.imp id fun h => (kp5.old _ (kp4.old _ h).1).1
    have hx7' := (hx5.trans hx6).trans hx7
    have e1 := dump_nd g5.ar.wf t.root
    have e2 := dump_nd g5.ar.wf o2
    have hbl := hbd.lt
    generalize w6.heap.size = bd at *
    obtain ⟨X, hX⟩ : ∃ X, R2.nodeOf t.root = X := ⟨_, rfl⟩
    obtain ⟨Y, hY⟩ : ∃ Y, R2.nodeOf o2 = Y := ⟨_, rfl⟩
    have cA : ∀ w', Ext w7 w' → Calls Try.prog 34 [.agg ⟨[.slice s1 R2.dump.slots.length c1, .slice s2 R2.dump.free.length c2]⟩, .int .u32 (t.root : Int)].toArray w' (Ret fun r w'' => r = .agg ⟨[.int .i64 X.key, .int .i64 X.val, .int .u32 (X.left : Int), .int .u32 (X.right : Int), .int .i64 X.size, .int .i64 X.sum, .int .i64 X.mn, .int .i64 X.mx]⟩ ∧ Ext w' w'') := by
      intro w' hx'
      refine (c_at12 w' _ _ _ t.root (hd7.ext hx') hdl (used_lt g3.ar.wf hrt)).mono ?_
      rintro _ w'' ⟨r, rfl, rfl, hx''⟩
      exact ⟨_, rfl, by rw [e1, hX]; rfl, hx''⟩
    have cB : ∀ w', Ext w7 w' → Calls Try.prog 34 [.agg ⟨[.slice s1 R2.dump.slots.length c1, .slice s2 R2.dump.free.length c2]⟩, .int .u32 (o2 : Int)].toArray w' (Ret fun r w'' => r = .agg ⟨[.int .i64 Y.key, .int .i64 Y.val, .int .u32 (Y.left : Int), .int .u32 (Y.right : Int), .int .i64 Y.size, .int .i64 Y.sum, .int .i64 Y.mn, .int .i64 Y.mx]⟩ ∧ Ext w' w'') := by
      intro w' hx'
      refine (c_at12 w' _ _ _ o2 (hd7.ext hx') hdl hlo2).mono ?_
      rintro _ w'' ⟨r, rfl, rfl, hx''⟩
      exact ⟨_, rfl, by rw [e2, hY]; rfl, hx''⟩
    refine go_cut (G := Nat × Nat) [17, 18] (fun ⟨bx, by_⟩ => [ptr bx, ptr by_]) [(2, .bool false), (9, .int .u32 (t.root : Int)), (14, .int .u32 (o2 : Int)), (16, ptr bd)]
      (fun ⟨bx, by_⟩ w' => At w' bx [.int .i64 X.key, .int .i64 X.val, .int .u32 (X.left : Int), .int .u32 (X.right : Int), .int .i64 X.size, .int .i64 X.sum, .int .i64 X.mn, .int .i64 X.mx] 64 ∧ At w' by_ [.int .i64 Y.key, .int .i64 Y.val, .int .u32 (Y.left : Int), .int .u32 (Y.right : Int), .int .i64 Y.size, .int .i64 Y.sum, .int .i64 Y.mn, .int .i64 Y.mx] 64 ∧ At w' bd [.slice s1 R2.dump.slots.length c1, .slice s2 R2.dump.free.length c2] 49 ∧ Ext w7 w') ?_ ?_
    · clear g g3 gA g4 g5 kp4 kp5 n1 n2 m1 m2 hd7 hdl e1 e2 hX hY ha hok hF5 h he
      refine go_sched (Fr (fun _ => False) w7) (.op 0 (.op 1 (.op 3 (.op 4 (.alt 2 (.alt 5 (.alt 6 (.op 7 (.op 8 (.op 9 (.fin)))) (.op 7 (.op 6 (.op 8 (.op 9 (.fin)))))) (.alt 6 (.alt 5 (.op 7 (.op 8 (.op 9 (.fin)))) (.op 7 (.op 5 (.op 8 (.op 9 (.fin)))))) (.op 7 (.alt 5 (.op 6 (.op 8 (.op 9 (.fin)))) (.op 6 (.op 5 (.op 8 (.op 9 (.fin))))))))) (.alt 6 (.alt 2 (.alt 5 (.op 7 (.op 8 (.op 9 (.fin)))) (.op 7 (.op 5 (.op 8 (.op 9 (.fin)))))) (.op 7 (.op 2 (.op 5 (.op 8 (.op 9 (.fin))))))) (.op 7 (.alt 2 (.alt 5 (.op 6 (.op 8 (.op 9 (.fin)))) (.op 6 (.op 5 (.op 8 (.op 9 (.fin)))))) (.op 6 (.op 2 (.op 5 (.op 8 (.op 9 (.fin)))))))))))))) Try.follows (by kernel_rfl) (by kernel_rfl) (by kernel_rfl) ((Fr.refl _ _).drewN 1) ?_
      refine go_op rfl ?_
      refine isl_load ?_; refine ldl ?_
      refine gol_nil ?_
      refine go_op rfl ?_
      refine sp ?_
      refine gol_nil ?_
      refine go_op rfl ?_
      refine isl_load ?_; refine ldl ?_
      refine gol_nil ?_
      refine go_op rfl ?_
      refine sp ?_
      refine gol_nil ?_
      refine go_alt rfl ?_ ?_
      · refine gol_call rfl rfl (cA _ (by (repeat (first | exact Fr.refl _ _ | assumption | apply Fr.drewN | apply Fr.alloc | (apply Fr.transF; assumption) | (refine Fr.setRow ?_ _ (by first | exact Or.inr (by (first | omega | (simp; done) | (simp; omega))) | (exact Or.inl (by first | assumption | (simp; done))))))))) ?_
        rintro _ wc ⟨rfl, hxwc⟩
        have hswc := hxwc.size
        try simp at hswc
        refine ⟨by show Ext _ _; (repeat (first | exact Fr.refl _ _ | assumption | apply Fr.drewN | apply Fr.alloc | (apply Fr.transF; assumption) | (refine Fr.setRow ?_ _ (by first | exact Or.inr (by (first | omega | (simp; done) | (simp; omega))) | (exact Or.inl (by first | assumption | (simp; done))))))), ?_⟩
        refine gol_nil ?_
        refine go_alt rfl ?_ ?_
        · refine gol_call rfl rfl (cB _ (by (repeat (first | exact Fr.refl _ _ | assumption | apply Fr.drewN | apply Fr.alloc | (apply Fr.transF; assumption) | (refine Fr.setRow ?_ _ (by first | exact Or.inr (by (first | omega | (simp; done) | (simp; omega))) | (exact Or.inl (by first | assumption | (simp; done))))))))) ?_
          rintro _ wd ⟨rfl, hxwd⟩
          have hswd := hxwd.size
          try simp at hswd
          refine ⟨by show Ext _ _; (repeat (first | exact Fr.refl _ _ | assumption | apply Fr.drewN | apply Fr.alloc | (apply Fr.transF; assumption) | (refine Fr.setRow ?_ _ (by first | exact Or.inr (by (first | omega | (simp; done) | (simp; omega))) | (exact Or.inl (by first | assumption | (simp; done))))))), ?_⟩
          refine gol_nil ?_
          refine go_alt rfl ?_ ?_
          · refine isl_alloc ?_; refine all' ?_
            refine gol_nil ?_
            refine go_op rfl ?_
            refine isl_alloc ?_; refine all' ?_
            refine gol_nil ?_
            refine go_op rfl ?_
            refine isl_store ?_; refine srl ?_
            refine gol_nil ?_
            refine go_op rfl ?_
            refine isl_store ?_; refine srl ?_
            refine gol_nil ?_
            refine go_fin ?_
            exact go_stop (G := Nat × Nat) (_, _) rfl ⟨rfl, rfl, rfl, rfl, trivial⟩ ⟨by (repeat (first | assumption | (refine At.new' (by (first | omega | (simp; done) | (simp; omega))) _ _) | apply At.alloc | apply At.drewN | apply At.setRow | (apply At.setRow_neF; first | assumption | (apply Ne.symm; assumption) | omega) | (apply At.extF; assumption))), by (repeat (first | assumption | (refine At.new' (by (first | omega | (simp; done) | (simp; omega))) _ _) | apply At.alloc | apply At.drewN | apply At.setRow | (apply At.setRow_neF; first | assumption | (apply Ne.symm; assumption) | omega) | (apply At.extF; assumption))), by (repeat (first | assumption | (refine At.new' (by (first | omega | (simp; done) | (simp; omega))) _ _) | apply At.alloc | apply At.drewN | apply At.setRow | (apply At.setRow_neF; first | assumption | (apply Ne.symm; assumption) | omega) | (apply At.extF; assumption))), by show Ext _ _; (repeat (first | exact Fr.refl _ _ | assumption | apply Fr.drewN | apply Fr.alloc | (apply Fr.transF; assumption) | (refine Fr.setRow ?_ _ (by first | exact Or.inr (by (first | omega | (simp; done) | (simp; omega))) | (exact Or.inl (by first | assumption | (simp; done)))))))⟩ trivial
          refine go_op rfl ?_
          refine isl_alloc ?_; refine all' ?_
          refine gol_nil ?_
          refine go_op rfl ?_
          refine isl_alloc ?_; refine all' ?_
          refine gol_nil ?_
          refine go_op rfl ?_
          refine isl_store ?_; refine srl ?_
          refine gol_nil ?_
          refine go_op rfl ?_
          refine isl_store ?_; refine srl ?_
          refine gol_nil ?_
          refine go_fin ?_
          exact go_stop (G := Nat × Nat) (_, _) rfl ⟨rfl, rfl, rfl, rfl, trivial⟩ ⟨by (repeat (first | assumption | (refine At.new' (by (first | omega | (simp; done) | (simp; omega))) _ _) | apply At.alloc | apply At.drewN | apply At.setRow | (apply At.setRow_neF; first | assumption | (apply Ne.symm; assumption) | omega) | (apply At.extF; assumption))), by (repeat (first | assumption | (refine At.new' (by (first | omega | (simp; done) | (simp; omega))) _ _) | apply At.alloc | apply At.drewN | apply At.setRow | (apply At.setRow_neF; first | assumption | (apply Ne.symm; assumption) | omega) | (apply At.extF; assumption))), by (repeat (first | assumption | (refine At.new' (by (first | omega | (simp; done) | (simp; omega))) _ _) | apply At.alloc | apply At.drewN | apply At.setRow | (apply At.setRow_neF; first | assumption | (apply Ne.symm; assumption) | omega) | (apply At.extF; assumption))), by show Ext _ _; (repeat (first | exact Fr.refl _ _ | assumption | apply Fr.drewN | apply Fr.alloc | (apply Fr.transF; assumption) | (refine Fr.setRow ?_ _ (by first | exact Or.inr (by (first | omega | (simp; done) | (simp; omega))) | (exact Or.inl (by first | assumption | (simp; done)))))))⟩ trivial
        refine go_alt rfl ?_ ?_
        · refine isl_alloc ?_; refine all' ?_
          refine gol_nil ?_
          refine go_alt rfl ?_ ?_
          · refine gol_call rfl rfl (cB _ (by (repeat (first | exact Fr.refl _ _ | assumption | apply Fr.drewN | apply Fr.alloc | (apply Fr.transF; assumption) | (refine Fr.setRow ?_ _ (by first | exact Or.inr (by (first | omega | (simp; done) | (simp; omega))) | (exact Or.inl (by first | assumption | (simp; done))))))))) ?_
            rintro _ wd ⟨rfl, hxwd⟩
            have hswd := hxwd.size
            try simp at hswd
            refine ⟨by show Ext _ _; (repeat (first | exact Fr.refl _ _ | assumption | apply Fr.drewN | apply Fr.alloc | (apply Fr.transF; assumption) | (refine Fr.setRow ?_ _ (by first | exact Or.inr (by (first | omega | (simp; done) | (simp; omega))) | (exact Or.inl (by first | assumption | (simp; done))))))), ?_⟩
            refine gol_nil ?_
            refine go_op rfl ?_
            refine isl_alloc ?_; refine all' ?_
            refine gol_nil ?_
            refine go_op rfl ?_
            refine isl_store ?_; refine srl ?_
            refine gol_nil ?_
            refine go_op rfl ?_
            refine isl_store ?_; refine srl ?_
            refine gol_nil ?_
            refine go_fin ?_
            exact go_stop (G := Nat × Nat) (_, _) rfl ⟨rfl, rfl, rfl, rfl, trivial⟩ ⟨by (repeat (first | assumption | (refine At.new' (by (first | omega | (simp; done) | (simp; omega))) _ _) | apply At.alloc | apply At.drewN | apply At.setRow | (apply At.setRow_neF; first | assumption | (apply Ne.symm; assumption) | omega) | (apply At.extF; assumption))), by (repeat (first | assumption | (refine At.new' (by (first | omega | (simp; done) | (simp; omega))) _ _) | apply At.alloc | apply At.drewN | apply At.setRow | (apply At.setRow_neF; first | assumption | (apply Ne.symm; assumption) | omega) | (apply At.extF; assumption))), by (repeat (first | assumption | (refine At.new' (by (first | omega | (simp; done) | (simp; omega))) _ _) | apply At.alloc | apply At.drewN | apply At.setRow | (apply At.setRow_neF; first | assumption | (apply Ne.symm; assumption) | omega) | (apply At.extF; assumption))), by show Ext _ _; (repeat (first | exact Fr.refl _ _ | assumption | apply Fr.drewN | apply Fr.alloc | (apply Fr.transF; assumption) | (refine Fr.setRow ?_ _ (by first | exact Or.inr (by (first | omega | (simp; done) | (simp; omega))) | (exact Or.inl (by first | assumption | (simp; done)))))))⟩ trivial
          refine go_op rfl ?_
          refine isl_alloc ?_; refine all' ?_
          refine gol_nil ?_
          refine go_op rfl ?_
          refine gol_call rfl rfl (cB _ (by (repeat (first | exact Fr.refl _ _ | assumption | apply Fr.drewN | apply Fr.alloc | (apply Fr.transF; assumption) | (refine Fr.setRow ?_ _ (by first | exact Or.inr (by (first | omega | (simp; done) | (simp; omega))) | (exact Or.inl (by first | assumption | (simp; done))))))))) ?_
          rintro _ wd ⟨rfl, hxwd⟩
          have hswd := hxwd.size
          try simp at hswd
          refine ⟨by show Ext _ _; (repeat (first | exact Fr.refl _ _ | assumption | apply Fr.drewN | apply Fr.alloc | (apply Fr.transF; assumption) | (refine Fr.setRow ?_ _ (by first | exact Or.inr (by (first | omega | (simp; done) | (simp; omega))) | (exact Or.inl (by first | assumption | (simp; done))))))), ?_⟩
          refine gol_nil ?_
          refine go_op rfl ?_
          refine isl_store ?_; refine srl ?_
          refine gol_nil ?_
          refine go_op rfl ?_
          refine isl_store ?_; refine srl ?_
          refine gol_nil ?_
          refine go_fin ?_
          exact go_stop (G := Nat × Nat) (_, _) rfl ⟨rfl, rfl, rfl, rfl, trivial⟩ ⟨by (repeat (first | assumption | (refine At.new' (by (first | omega | (simp; done) | (simp; omega))) _ _) | apply At.alloc | apply At.drewN | apply At.setRow | (apply At.setRow_neF; first | assumption | (apply Ne.symm; assumption) | omega) | (apply At.extF; assumption))), by (repeat (first | assumption | (refine At.new' (by (first | omega | (simp; done) | (simp; omega))) _ _) | apply At.alloc | apply At.drewN | apply At.setRow | (apply At.setRow_neF; first | assumption | (apply Ne.symm; assumption) | omega) | (apply At.extF; assumption))), by (repeat (first | assumption | (refine At.new' (by (first | omega | (simp; done) | (simp; omega))) _ _) | apply At.alloc | apply At.drewN | apply At.setRow | (apply At.setRow_neF; first | assumption | (apply Ne.symm; assumption) | omega) | (apply At.extF; assumption))), by show Ext _ _; (repeat (first | exact Fr.refl _ _ | assumption | apply Fr.drewN | apply Fr.alloc | (apply Fr.transF; assumption) | (refine Fr.setRow ?_ _ (by first | exact Or.inr (by (first | omega | (simp; done) | (simp; omega))) | (exact Or.inl (by first | assumption | (simp; done)))))))⟩ trivial
        refine go_op rfl ?_
        refine isl_alloc ?_; refine all' ?_
        refine gol_nil ?_
        refine go_alt rfl ?_ ?_
        · refine gol_call rfl rfl (cB _ (by (repeat (first | exact Fr.refl _ _ | assumption | apply Fr.drewN | apply Fr.alloc | (apply Fr.transF; assumption) | (refine Fr.setRow ?_ _ (by first | exact Or.inr (by (first | omega | (simp; done) | (simp; omega))) | (exact Or.inl (by first | assumption | (simp; done))))))))) ?_
          rintro _ wd ⟨rfl, hxwd⟩
          have hswd := hxwd.size
          try simp at hswd
          refine ⟨by show Ext _ _; (repeat (first | exact Fr.refl _ _ | assumption | apply Fr.drewN | apply Fr.alloc | (apply Fr.transF; assumption) | (refine Fr.setRow ?_ _ (by first | exact Or.inr (by (first | omega | (simp; done) | (simp; omega))) | (exact Or.inl (by first | assumption | (simp; done))))))), ?_⟩
          refine gol_nil ?_
          refine go_op rfl ?_
          refine isl_alloc ?_; refine all' ?_
          refine gol_nil ?_
          refine go_op rfl ?_
          refine isl_store ?_; refine srl ?_
          refine gol_nil ?_
          refine go_op rfl ?_
          refine isl_store ?_; refine srl ?_
          refine gol_nil ?_
          refine go_fin ?_
          exact go_stop (G := Nat × Nat) (_, _) rfl ⟨rfl, rfl, rfl, rfl, trivial⟩ ⟨by (repeat (first | assumption | (refine At.new' (by (first | omega | (simp; done) | (simp; omega))) _ _) | apply At.alloc | apply At.drewN | apply At.setRow | (apply At.setRow_neF; first | assumption | (apply Ne.symm; assumption) | omega) | (apply At.extF; assumption))), by (repeat (first | assumption | (refine At.new' (by (first | omega | (simp; done) | (simp; omega))) _ _) | apply At.alloc | apply At.drewN | apply At.setRow | (apply At.setRow_neF; first | assumption | (apply Ne.symm; assumption) | omega) | (apply At.extF; assumption))), by (repeat (first | assumption | (refine At.new' (by (first | omega | (simp; done) | (simp; omega))) _ _) | apply At.alloc | apply At.drewN | apply At.setRow | (apply At.setRow_neF; first | assumption | (apply Ne.symm; assumption) | omega) | (apply At.extF; assumption))), by show Ext _ _; (repeat (first | exact Fr.refl _ _ | assumption | apply Fr.drewN | apply Fr.alloc | (apply Fr.transF; assumption) | (refine Fr.setRow ?_ _ (by first | exact Or.inr (by (first | omega | (simp; done) | (simp; omega))) | (exact Or.inl (by first | assumption | (simp; done)))))))⟩ trivial
        refine go_op rfl ?_
        refine isl_alloc ?_; refine all' ?_
        refine gol_nil ?_
        refine go_op rfl ?_
        refine gol_call rfl rfl (cB _ (by (repeat (first | exact Fr.refl _ _ | assumption | apply Fr.drewN | apply Fr.alloc | (apply Fr.transF; assumption) | (refine Fr.setRow ?_ _ (by first | exact Or.inr (by (first | omega | (simp; done) | (simp; omega))) | (exact Or.inl (by first | assumption | (simp; done))))))))) ?_
        rintro _ wd ⟨rfl, hxwd⟩
        have hswd := hxwd.size
        try simp at hswd
        refine ⟨by show Ext _ _; (repeat (first | exact Fr.refl _ _ | assumption | apply Fr.drewN | apply Fr.alloc | (apply Fr.transF; assumption) | (refine Fr.setRow ?_ _ (by first | exact Or.inr (by (first | omega | (simp; done) | (simp; omega))) | (exact Or.inl (by first | assumption | (simp; done))))))), ?_⟩
        refine gol_nil ?_
        refine go_op rfl ?_
        refine isl_store ?_; refine srl ?_
        refine gol_nil ?_
        refine go_op rfl ?_
        refine isl_store ?_; refine srl ?_
        refine gol_nil ?_
        refine go_fin ?_
        exact go_stop (G := Nat × Nat) (_, _) rfl ⟨rfl, rfl, rfl, rfl, trivial⟩ ⟨by (repeat (first | assumption | (refine At.new' (by (first | omega | (simp; done) | (simp; omega))) _ _) | apply At.alloc | apply At.drewN | apply At.setRow | (apply At.setRow_neF; first | assumption | (apply Ne.symm; assumption) | omega) | (apply At.extF; assumption))), by (repeat (first | assumption | (refine At.new' (by (first | omega | (simp; done) | (simp; omega))) _ _) | apply At.alloc | apply At.drewN | apply At.setRow | (apply At.setRow_neF; first | assumption | (apply Ne.symm; assumption) | omega) | (apply At.extF; assumption))), by (repeat (first | assumption | (refine At.new' (by (first | omega | (simp; done) | (simp; omega))) _ _) | apply At.alloc | apply At.drewN | apply At.setRow | (apply At.setRow_neF; first | assumption | (apply Ne.symm; assumption) | omega) | (apply At.extF; assumption))), by show Ext _ _; (repeat (first | exact Fr.refl _ _ | assumption | apply Fr.drewN | apply Fr.alloc | (apply Fr.transF; assumption) | (refine Fr.setRow ?_ _ (by first | exact Or.inr (by (first | omega | (simp; done) | (simp; omega))) | (exact Or.inl (by first | assumption | (simp; done)))))))⟩ trivial
      refine go_alt rfl ?_ ?_
      · refine isl_alloc ?_; refine all' ?_
        refine gol_nil ?_
        refine go_alt rfl ?_ ?_
        · refine gol_call rfl rfl (cA _ (by (repeat (first | exact Fr.refl _ _ | assumption | apply Fr.drewN | apply Fr.alloc | (apply Fr.transF; assumption) | (refine Fr.setRow ?_ _ (by first | exact Or.inr (by (first | omega | (simp; done) | (simp; omega))) | (exact Or.inl (by first | assumption | (simp; done))))))))) ?_
          rintro _ wc ⟨rfl, hxwc⟩
          have hswc := hxwc.size
          try simp at hswc
          refine ⟨by show Ext _ _; (repeat (first | exact Fr.refl _ _ | assumption | apply Fr.drewN | apply Fr.alloc | (apply Fr.transF; assumption) | (refine Fr.setRow ?_ _ (by first | exact Or.inr (by (first | omega | (simp; done) | (simp; omega))) | (exact Or.inl (by first | assumption | (simp; done))))))), ?_⟩
          refine gol_nil ?_
          refine go_alt rfl ?_ ?_
          · refine gol_call rfl rfl (cB _ (by (repeat (first | exact Fr.refl _ _ | assumption | apply Fr.drewN | apply Fr.alloc | (apply Fr.transF; assumption) | (refine Fr.setRow ?_ _ (by first | exact Or.inr (by (first | omega | (simp; done) | (simp; omega))) | (exact Or.inl (by first | assumption | (simp; done))))))))) ?_
            rintro _ wd ⟨rfl, hxwd⟩
            have hswd := hxwd.size
            try simp at hswd
            refine ⟨by show Ext _ _; (repeat (first | exact Fr.refl _ _ | assumption | apply Fr.drewN | apply Fr.alloc | (apply Fr.transF; assumption) | (refine Fr.setRow ?_ _ (by first | exact Or.inr (by (first | omega | (simp; done) | (simp; omega))) | (exact Or.inl (by first | assumption | (simp; done))))))), ?_⟩
            refine gol_nil ?_
            refine go_op rfl ?_
            refine isl_alloc ?_; refine all' ?_
            refine gol_nil ?_
            refine go_op rfl ?_
            refine isl_store ?_; refine srl ?_
            refine gol_nil ?_
            refine go_op rfl ?_
            refine isl_store ?_; refine srl ?_
            refine gol_nil ?_
            refine go_fin ?_
            exact go_stop (G := Nat × Nat) (_, _) rfl ⟨rfl, rfl, rfl, rfl, trivial⟩ ⟨by (repeat (first | assumption | (refine At.new' (by (first | omega | (simp; done) | (simp; omega))) _ _) | apply At.alloc | apply At.drewN | apply At.setRow | (apply At.setRow_neF; first | assumption | (apply Ne.symm; assumption) | omega) | (apply At.extF; assumption))), by (repeat (first | assumption | (refine At.new' (by (first | omega | (simp; done) | (simp; omega))) _ _) | apply At.alloc | apply At.drewN | apply At.setRow | (apply At.setRow_neF; first | assumption | (apply Ne.symm; assumption) | omega) | (apply At.extF; assumption))), by (repeat (first | assumption | (refine At.new' (by (first | omega | (simp; done) | (simp; omega))) _ _) | apply At.alloc | apply At.drewN | apply At.setRow | (apply At.setRow_neF; first | assumption | (apply Ne.symm; assumption) | omega) | (apply At.extF; assumption))), by show Ext _ _; (repeat (first | exact Fr.refl _ _ | assumption | apply Fr.drewN | apply Fr.alloc | (apply Fr.transF; assumption) | (refine Fr.setRow ?_ _ (by first | exact Or.inr (by (first | omega | (simp; done) | (simp; omega))) | (exact Or.inl (by first | assumption | (simp; done)))))))⟩ trivial
          refine go_op rfl ?_
          refine isl_alloc ?_; refine all' ?_
          refine gol_nil ?_
          refine go_op rfl ?_
          refine gol_call rfl rfl (cB _ (by (repeat (first | exact Fr.refl _ _ | assumption | apply Fr.drewN | apply Fr.alloc | (apply Fr.transF; assumption) | (refine Fr.setRow ?_ _ (by first | exact Or.inr (by (first | omega | (simp; done) | (simp; omega))) | (exact Or.inl (by first | assumption | (simp; done))))))))) ?_
          rintro _ wd ⟨rfl, hxwd⟩
          have hswd := hxwd.size
          try simp at hswd
          refine ⟨by show Ext _ _; (repeat (first | exact Fr.refl _ _ | assumption | apply Fr.drewN | apply Fr.alloc | (apply Fr.transF; assumption) | (refine Fr.setRow ?_ _ (by first | exact Or.inr (by (first | omega | (simp; done) | (simp; omega))) | (exact Or.inl (by first | assumption | (simp; done))))))), ?_⟩
          refine gol_nil ?_
          refine go_op rfl ?_
          refine isl_store ?_; refine srl ?_
          refine gol_nil ?_
          refine go_op rfl ?_
          refine isl_store ?_; refine srl ?_
          refine gol_nil ?_
          refine go_fin ?_
          exact go_stop (G := Nat × Nat) (_, _) rfl ⟨rfl, rfl, rfl, rfl, trivial⟩ ⟨by (repeat (first | assumption | (refine At.new' (by (first | omega | (simp; done) | (simp; omega))) _ _) | apply At.alloc | apply At.drewN | apply At.setRow | (apply At.setRow_neF; first | assumption | (apply Ne.symm; assumption) | omega) | (apply At.extF; assumption))), by (repeat (first | assumption | (refine At.new' (by (first | omega | (simp; done) | (simp; omega))) _ _) | apply At.alloc | apply At.drewN | apply At.setRow | (apply At.setRow_neF; first | assumption | (apply Ne.symm; assumption) | omega) | (apply At.extF; assumption))), by (repeat (first | assumption | (refine At.new' (by (first | omega | (simp; done) | (simp; omega))) _ _) | apply At.alloc | apply At.drewN | apply At.setRow | (apply At.setRow_neF; first | assumption | (apply Ne.symm; assumption) | omega) | (apply At.extF; assumption))), by show Ext _ _; (repeat (first | exact Fr.refl _ _ | assumption | apply Fr.drewN | apply Fr.alloc | (apply Fr.transF; assumption) | (refine Fr.setRow ?_ _ (by first | exact Or.inr (by (first | omega | (simp; done) | (simp; omega))) | (exact Or.inl (by first | assumption | (simp; done)))))))⟩ trivial
        refine go_op rfl ?_
        refine isl_alloc ?_; refine all' ?_
        refine gol_nil ?_
        refine go_op rfl ?_
        refine gol_call rfl rfl (cA _ (by (repeat (first | exact Fr.refl _ _ | assumption | apply Fr.drewN | apply Fr.alloc | (apply Fr.transF; assumption) | (refine Fr.setRow ?_ _ (by first | exact Or.inr (by (first | omega | (simp; done) | (simp; omega))) | (exact Or.inl (by first | assumption | (simp; done))))))))) ?_
        rintro _ wc ⟨rfl, hxwc⟩
        have hswc := hxwc.size
        try simp at hswc
        refine ⟨by show Ext _ _; (repeat (first | exact Fr.refl _ _ | assumption | apply Fr.drewN | apply Fr.alloc | (apply Fr.transF; assumption) | (refine Fr.setRow ?_ _ (by first | exact Or.inr (by (first | omega | (simp; done) | (simp; omega))) | (exact Or.inl (by first | assumption | (simp; done))))))), ?_⟩
        refine gol_nil ?_
        refine go_op rfl ?_
        refine gol_call rfl rfl (cB _ (by (repeat (first | exact Fr.refl _ _ | assumption | apply Fr.drewN | apply Fr.alloc | (apply Fr.transF; assumption) | (refine Fr.setRow ?_ _ (by first | exact Or.inr (by (first | omega | (simp; done) | (simp; omega))) | (exact Or.inl (by first | assumption | (simp; done))))))))) ?_
        rintro _ wd ⟨rfl, hxwd⟩
        have hswd := hxwd.size
        try simp at hswd
        refine ⟨by show Ext _ _; (repeat (first | exact Fr.refl _ _ | assumption | apply Fr.drewN | apply Fr.alloc | (apply Fr.transF; assumption) | (refine Fr.setRow ?_ _ (by first | exact Or.inr (by (first | omega | (simp; done) | (simp; omega))) | (exact Or.inl (by first | assumption | (simp; done))))))), ?_⟩
        refine gol_nil ?_
        refine go_op rfl ?_
        refine isl_store ?_; refine srl ?_
        refine gol_nil ?_
        refine go_op rfl ?_
        refine isl_store ?_; refine srl ?_
        refine gol_nil ?_
        refine go_fin ?_
        exact go_stop (G := Nat × Nat) (_, _) rfl ⟨rfl, rfl, rfl, rfl, trivial⟩ ⟨by (repeat (first | assumption | (refine At.new' (by (first | omega | (simp; done) | (simp; omega))) _ _) | apply At.alloc | apply At.drewN | apply At.setRow | (apply At.setRow_neF; first | assumption | (apply Ne.symm; assumption) | omega) | (apply At.extF; assumption))), by (repeat (first | assumption | (refine At.new' (by (first | omega | (simp; done) | (simp; omega))) _ _) | apply At.alloc | apply At.drewN | apply At.setRow | (apply At.setRow_neF; first | assumption | (apply Ne.symm; assumption) | omega) | (apply At.extF; assumption))), by (repeat (first | assumption | (refine At.new' (by (first | omega | (simp; done) | (simp; omega))) _ _) | apply At.alloc | apply At.drewN | apply At.setRow | (apply At.setRow_neF; first | assumption | (apply Ne.symm; assumption) | omega) | (apply At.extF; assumption))), by show Ext _ _; (repeat (first | exact Fr.refl _ _ | assumption | apply Fr.drewN | apply Fr.alloc | (apply Fr.transF; assumption) | (refine Fr.setRow ?_ _ (by first | exact Or.inr (by (first | omega | (simp; done) | (simp; omega))) | (exact Or.inl (by first | assumption | (simp; done)))))))⟩ trivial
      refine go_op rfl ?_
      refine isl_alloc ?_; refine all' ?_
      refine gol_nil ?_
      refine go_alt rfl ?_ ?_
      · refine gol_call rfl rfl (cA _ (by (repeat (first | exact Fr.refl _ _ | assumption | apply Fr.drewN | apply Fr.alloc | (apply Fr.transF; assumption) | (refine Fr.setRow ?_ _ (by first | exact Or.inr (by (first | omega | (simp; done) | (simp; omega))) | (exact Or.inl (by first | assumption | (simp; done))))))))) ?_
        rintro _ wc ⟨rfl, hxwc⟩
        have hswc := hxwc.size
        try simp at hswc
        refine ⟨by show Ext _ _; (repeat (first | exact Fr.refl _ _ | assumption | apply Fr.drewN | apply Fr.alloc | (apply Fr.transF; assumption) | (refine Fr.setRow ?_ _ (by first | exact Or.inr (by (first | omega | (simp; done) | (simp; omega))) | (exact Or.inl (by first | assumption | (simp; done))))))), ?_⟩
        refine gol_nil ?_
        refine go_alt rfl ?_ ?_
        · refine gol_call rfl rfl (cB _ (by (repeat (first | exact Fr.refl _ _ | assumption | apply Fr.drewN | apply Fr.alloc | (apply Fr.transF; assumption) | (refine Fr.setRow ?_ _ (by first | exact Or.inr (by (first | omega | (simp; done) | (simp; omega))) | (exact Or.inl (by first | assumption | (simp; done))))))))) ?_
          rintro _ wd ⟨rfl, hxwd⟩
          have hswd := hxwd.size
          try simp at hswd
          refine ⟨by show Ext _ _; (repeat (first | exact Fr.refl _ _ | assumption | apply Fr.drewN | apply Fr.alloc | (apply Fr.transF; assumption) | (refine Fr.setRow ?_ _ (by first | exact Or.inr (by (first | omega | (simp; done) | (simp; omega))) | (exact Or.inl (by first | assumption | (simp; done))))))), ?_⟩
          refine gol_nil ?_
          refine go_op rfl ?_
          refine isl_alloc ?_; refine all' ?_
          refine gol_nil ?_
          refine go_op rfl ?_
          refine isl_store ?_; refine srl ?_
          refine gol_nil ?_
          refine go_op rfl ?_
          refine isl_store ?_; refine srl ?_
          refine gol_nil ?_
          refine go_fin ?_
          exact go_stop (G := Nat × Nat) (_, _) rfl ⟨rfl, rfl, rfl, rfl, trivial⟩ ⟨by (repeat (first | assumption | (refine At.new' (by (first | omega | (simp; done) | (simp; omega))) _ _) | apply At.alloc | apply At.drewN | apply At.setRow | (apply At.setRow_neF; first | assumption | (apply Ne.symm; assumption) | omega) | (apply At.extF; assumption))), by (repeat (first | assumption | (refine At.new' (by (first | omega | (simp; done) | (simp; omega))) _ _) | apply At.alloc | apply At.drewN | apply At.setRow | (apply At.setRow_neF; first | assumption | (apply Ne.symm; assumption) | omega) | (apply At.extF; assumption))), by (repeat (first | assumption | (refine At.new' (by (first | omega | (simp; done) | (simp; omega))) _ _) | apply At.alloc | apply At.drewN | apply At.setRow | (apply At.setRow_neF; first | assumption | (apply Ne.symm; assumption) | omega) | (apply At.extF; assumption))), by show Ext _ _; (repeat (first | exact Fr.refl _ _ | assumption | apply Fr.drewN | apply Fr.alloc | (apply Fr.transF; assumption) | (refine Fr.setRow ?_ _ (by first | exact Or.inr (by (first | omega | (simp; done) | (simp; omega))) | (exact Or.inl (by first | assumption | (simp; done)))))))⟩ trivial
        refine go_op rfl ?_
        refine isl_alloc ?_; refine all' ?_
        refine gol_nil ?_
        refine go_op rfl ?_
        refine gol_call rfl rfl (cB _ (by (repeat (first | exact Fr.refl _ _ | assumption | apply Fr.drewN | apply Fr.alloc | (apply Fr.transF; assumption) | (refine Fr.setRow ?_ _ (by first | exact Or.inr (by (first | omega | (simp; done) | (simp; omega))) | (exact Or.inl (by first | assumption | (simp; done))))))))) ?_
        rintro _ wd ⟨rfl, hxwd⟩
        have hswd := hxwd.size
        try simp at hswd
        refine ⟨by show Ext _ _; (repeat (first | exact Fr.refl _ _ | assumption | apply Fr.drewN | apply Fr.alloc | (apply Fr.transF; assumption) | (refine Fr.setRow ?_ _ (by first | exact Or.inr (by (first | omega | (simp; done) | (simp; omega))) | (exact Or.inl (by first | assumption | (simp; done))))))), ?_⟩
        refine gol_nil ?_
        refine go_op rfl ?_
        refine isl_store ?_; refine srl ?_
        refine gol_nil ?_
        refine go_op rfl ?_
        refine isl_store ?_; refine srl ?_
        refine gol_nil ?_
        refine go_fin ?_
        exact go_stop (G := Nat × Nat) (_, _) rfl ⟨rfl, rfl, rfl, rfl, trivial⟩ ⟨by (repeat (first | assumption | (refine At.new' (by (first | omega | (simp; done) | (simp; omega))) _ _) | apply At.alloc | apply At.drewN | apply At.setRow | (apply At.setRow_neF; first | assumption | (apply Ne.symm; assumption) | omega) | (apply At.extF; assumption))), by (repeat (first | assumption | (refine At.new' (by (first | omega | (simp; done) | (simp; omega))) _ _) | apply At.alloc | apply At.drewN | apply At.setRow | (apply At.setRow_neF; first | assumption | (apply Ne.symm; assumption) | omega) | (apply At.extF; assumption))), by (repeat (first | assumption | (refine At.new' (by (first | omega | (simp; done) | (simp; omega))) _ _) | apply At.alloc | apply At.drewN | apply At.setRow | (apply At.setRow_neF; first | assumption | (apply Ne.symm; assumption) | omega) | (apply At.extF; assumption))), by show Ext _ _; (repeat (first | exact Fr.refl _ _ | assumption | apply Fr.drewN | apply Fr.alloc | (apply Fr.transF; assumption) | (refine Fr.setRow ?_ _ (by first | exact Or.inr (by (first | omega | (simp; done) | (simp; omega))) | (exact Or.inl (by first | assumption | (simp; done)))))))⟩ trivial
      refine go_op rfl ?_
      refine isl_alloc ?_; refine all' ?_
      refine gol_nil ?_
      refine go_op rfl ?_
      refine gol_call rfl rfl (cA _ (by (repeat (first | exact Fr.refl _ _ | assumption | apply Fr.drewN | apply Fr.alloc | (apply Fr.transF; assumption) | (refine Fr.setRow ?_ _ (by first | exact Or.inr (by (first | omega | (simp; done) | (simp; omega))) | (exact Or.inl (by first | assumption | (simp; done))))))))) ?_
      rintro _ wc ⟨rfl, hxwc⟩
      have hswc := hxwc.size
      try simp at hswc
      refine ⟨by show Ext _ _; (repeat (first | exact Fr.refl _ _ | assumption | apply Fr.drewN | apply Fr.alloc | (apply Fr.transF; assumption) | (refine Fr.setRow ?_ _ (by first | exact Or.inr (by (first | omega | (simp; done) | (simp; omega))) | (exact Or.inl (by first | assumption | (simp; done))))))), ?_⟩
      refine gol_nil ?_
      refine go_op rfl ?_
      refine gol_call rfl rfl (cB _ (by (repeat (first | exact Fr.refl _ _ | assumption | apply Fr.drewN | apply Fr.alloc | (apply Fr.transF; assumption) | (refine Fr.setRow ?_ _ (by first | exact Or.inr (by (first | omega | (simp; done) | (simp; omega))) | (exact Or.inl (by first | assumption | (simp; done))))))))) ?_
      rintro _ wd ⟨rfl, hxwd⟩
      have hswd := hxwd.size
      try simp at hswd
      refine ⟨by show Ext _ _; (repeat (first | exact Fr.refl _ _ | assumption | apply Fr.drewN | apply Fr.alloc | (apply Fr.transF; assumption) | (refine Fr.setRow ?_ _ (by first | exact Or.inr (by (first | omega | (simp; done) | (simp; omega))) | (exact Or.inl (by first | assumption | (simp; done))))))), ?_⟩
      refine gol_nil ?_
      refine go_op rfl ?_
      refine isl_store ?_; refine srl ?_
      refine gol_nil ?_
      refine go_op rfl ?_
      refine isl_store ?_; refine srl ?_
      refine gol_nil ?_
      refine go_fin ?_
      exact go_stop (G := Nat × Nat) (_, _) rfl ⟨rfl, rfl, rfl, rfl, trivial⟩ ⟨by (repeat (first | assumption | (refine At.new' (by (first | omega | (simp; done) | (simp; omega))) _ _) | apply At.alloc | apply At.drewN | apply At.setRow | (apply At.setRow_neF; first | assumption | (apply Ne.symm; assumption) | omega) | (apply At.extF; assumption))), by (repeat (first | assumption | (refine At.new' (by (first | omega | (simp; done) | (simp; omega))) _ _) | apply At.alloc | apply At.drewN | apply At.setRow | (apply At.setRow_neF; first | assumption | (apply Ne.symm; assumption) | omega) | (apply At.extF; assumption))), by (repeat (first | assumption | (refine At.new' (by (first | omega | (simp; done) | (simp; omega))) _ _) | apply At.alloc | apply At.drewN | apply At.setRow | (apply At.setRow_neF; first | assumption | (apply Ne.symm; assumption) | omega) | (apply At.extF; assumption))), by show Ext _ _; (repeat (first | exact Fr.refl _ _ | assumption | apply Fr.drewN | apply Fr.alloc | (apply Fr.transF; assumption) | (refine Fr.setRow ?_ _ (by first | exact Or.inr (by (first | omega | (simp; done) | (simp; omega))) | (exact Or.inl (by first | assumption | (simp; done)))))))⟩ trivial
    rintro ⟨bx, by_⟩ w8 ⟨hbx, hby, hbd, hx8⟩
    have hu4 := hF4.1
    have hk0 := kp4.old t.root hu4
    have hk0' := kp5.old t.root hk0.1
    have hXe : X = B.node t.root := by rw [← hX, nodeOf_us hk0'.1, hk0'.2.1, hk0.2.1]
    have hYe : Y = R2.node o2 := by rw [← hY, nodeOf_us m1.use]
    have hp4 := kp4.old _ hF4.2
    have hp5 := kp5.old _ hp4.1
    have ejn : (R.node o).left = j := n1.left
    have y1 : Y.key = X.key := by rw [hYe, m1.key, ejn, n2.key, hXe]
    have y2 : Y.val = X.val := by rw [hYe, m1.val, ejn, n2.val, hXe]
    have y3 : Y.left = X.left := by rw [hYe, m1.left, ejn, n2.left, hXe]
    have y4 : Y.right = j2 := by rw [hYe, m1.right]
    have hEQ : R2.nodeOf Y.right = R2.nodeOf X.right := by
      rw [y4, hXe, nodeOf_us m2.use, nodeOf_us hp5.1]
      have a1 := g5.snd.agg j2 m2.use
      have a2 := g5.snd.agg _ hp5.1
      rw [m2.key, m2.val, m2.left, m2.right, ejn, n1.key, n1.val, n1.right, n2.right] at a1
      rw [hp5.2.1, hp4.2.1] at a2
      rw [a1, hp5.2.1, hp4.2.1]
      exact a2.symm
    have uX : X.right = 0 ∨ R2.used X.right = true := Or.inr (by rw [hXe]; exact hp5.1)
    have uY : Y.right = 0 ∨ R2.used Y.right = true := Or.inr (by rw [y4]; exact m2.use)
    repeat (first | refine sp ?_ | (refine is_load ?_; refine ld ?_) | (refine is_store ?_; refine sr ?_) | (refine is_alloc ?_; refine al ?_) | (refine is_box ?_; refine bx ?_) | (refine isl_load ?_; refine ldl ?_) | (refine isl_store ?_; refine srl ?_) | (refine isl_alloc ?_; refine all' ?_) | (refine isl_box ?_; refine bxl ?_))
    refine go_drawE (Fr (fun _ => False) w8) 0 Try.follows (by kernel_rfl) (by kernel_rfl) (by kernel_rfl) ((Fr.refl _ _).drewN 1) ?_
    repeat (first | refine sp ?_ | (refine is_load ?_; refine ld ?_) | (refine is_store ?_; refine sr ?_) | (refine is_alloc ?_; refine al ?_) | (refine is_box ?_; refine bx ?_) | (refine isl_load ?_; refine ldl ?_) | (refine isl_store ?_; refine srl ?_) | (refine isl_alloc ?_; refine all' ?_) | (refine isl_box ?_; refine bxl ?_))
    refine gol_call rfl rfl (c_is _ Y X X.left Y.right y1 y2 y3 rfl) ?_
    rintro _ w9 ⟨rfl, hx9⟩
    have hx9' : Ext w8 w9 := Fr.trans ((Fr.refl _ _).drewN 1) hx9
    refine ⟨hx9', ?_⟩
    repeat (first | refine sp ?_ | (refine is_load ?_; refine ld ?_) | (refine is_store ?_; refine sr ?_) | (refine is_alloc ?_; refine al ?_) | (refine is_box ?_; refine bx ?_) | (refine isl_load ?_; refine ldl ?_) | (refine isl_store ?_; refine srl ?_) | (refine isl_alloc ?_; refine all' ?_) | (refine isl_box ?_; refine bxl ?_))
    refine gol_call rfl rfl (c_at12 w9 _ _ _ Y.right (hd7.ext (hx8.trans hx9')) hdl (used_lt g5.ar.wf uY)) ?_
    rintro _ w10 ⟨rfl, hx10⟩
    refine ⟨hx9'.trans hx10, ?_⟩
    repeat (first | refine sp ?_ | (refine is_load ?_; refine ld ?_) | (refine is_store ?_; refine sr ?_) | (refine is_alloc ?_; refine al ?_) | (refine is_box ?_; refine bx ?_) | (refine isl_load ?_; refine ldl ?_) | (refine isl_store ?_; refine srl ?_) | (refine isl_alloc ?_; refine all' ?_) | (refine isl_box ?_; refine bxl ?_))
    refine gol_call rfl rfl (c_at12 w10 _ _ _ X.right (hd7.ext ((hx8.trans hx9').trans hx10)) hdl (used_lt g5.ar.wf uX)) ?_
    rintro _ w11 ⟨rfl, hx11⟩
    refine ⟨(hx9'.trans hx10).trans hx11, ?_⟩
    rw [dump_nd g5.ar.wf, dump_nd g5.ar.wf, hEQ]
    generalize R2.nodeOf X.right = NN
    unfold Nd.cells
    repeat (first | refine sp ?_ | (refine is_load ?_; refine ld ?_) | (refine is_store ?_; refine sr ?_) | (refine is_alloc ?_; refine al ?_) | (refine is_box ?_; refine bx ?_) | (refine isl_load ?_; refine ldl ?_) | (refine isl_store ?_; refine srl ?_) | (refine isl_alloc ?_; refine all' ?_) | (refine isl_box ?_; refine bxl ?_))
    exact go_ret1 rfl rfl ⟨_, rfl, by rw [show eqL [.int .i64 NN.key, .int .i64 NN.val, .int .u32 (NN.left : Int), .int .u32 (NN.right : Int), .int .i64 NN.size, .int .i64 NN.sum, .int .i64 NN.mn, .int .i64 NN.mx] [.int .i64 NN.key, .int .i64 NN.val, .int .u32 (NN.left : Int), .int .u32 (NN.right : Int), .int .i64 NN.size, .int .i64 NN.sum, .int .i64 NN.mn, .int .i64 NN.mx] = true by simp [eqL]], (((hx7'.trans hx8).trans hx9').trans hx10).trans hx11⟩
  | true =>
    have hk1 : (1 : Nat) < 4 := by omega
    repeat (first | refine sp ?_ | (refine is_load ?_; refine ld ?_) | (refine is_store ?_; refine sr ?_) | (refine is_alloc ?_; refine al ?_) | (refine is_box ?_; refine bx ?_) | (refine isl_load ?_; refine ldl ?_) | (refine isl_store ?_; refine srl ?_) | (refine isl_alloc ?_; refine all' ?_) | (refine isl_box ?_; refine bxl ?_))
    refine go_call rfl rfl (c_call w3 lo p q B _ t.root 1 gA hb3 (used_lt g3.ar.wf hrt) (by omega)) ?_
    rintro v4 w4 (⟨hF4, _, q4, R, o, rfl, g4, kp4, hfr4, ⟨j, n1, n2⟩, hq4, hf4⟩ | ⟨E, B', rfl, (⟨rfl, hn⟩ | ⟨_, _, hn⟩), g4, r4, hf4⟩)
    rotate_left
    · have hx4 : Ext w w4 := g3.ext.trans' hf4 fun b hb e => by have := gA.lof b e; have := g3.lof.2.2; omega
      repeat (first | refine sp ?_ | (refine is_load ?_; refine ld ?_) | (refine is_store ?_; refine sr ?_) | (refine is_alloc ?_; refine al ?_) | (refine is_box ?_; refine bx ?_) | (refine isl_load ?_; refine ldl ?_) | (refine isl_store ?_; refine srl ?_) | (refine isl_alloc ?_; refine all' ?_) | (refine isl_box ?_; refine bxl ?_))
      exact go_ret1 rfl rfl ⟨_, rfl, rfl, hx4⟩
    · have hn : B.free < 2 := hn
      omega
    have hx4 : Ext w w4 := g3.ext.trans' hf4 fun b hb e => by have := gA.lof b e; have := g3.lof.2.2; omega
    have hF4 : fR B t.root := hF4
    have hfr4 : R.free + 2 = B.free := hfr4
    have hb4 : ∀ i, addH (fun i => eq01 t.root i) o i ≤ 1000000 := fun i => by have := hb3 i; have := hb1 i; have := addH_le (h := fun i => eq01 t.root i) hb1 (k := o) i; omega
    have hlo := used_lt g4.ar.wf (Or.inr n1.use)
    repeat (first | refine sp ?_ | (refine is_load ?_; refine ld ?_) | (refine is_store ?_; refine sr ?_) | (refine is_alloc ?_; refine al ?_) | (refine is_box ?_; refine bx ?_) | (refine isl_load ?_; refine ldl ?_) | (refine isl_store ?_; refine srl ?_) | (refine isl_alloc ?_; refine all' ?_) | (refine isl_box ?_; refine bxl ?_))
    refine go_call rfl rfl (c_call w4 lo p q4 R _ o 0 g4 hb4 hlo (by omega)) ?_
    have hF5 : fL R o := ⟨n1.use, by rw [n1.right]; exact n2.use⟩
    rintro v5 w5 (⟨_, _, q5, R2, o2, rfl, g5, kp5, hfr5, ⟨j2, m1, m2⟩, hq5, hf5⟩ | ⟨E, B', rfl, (⟨_, hn⟩ | ⟨_, _, hn⟩), _⟩)
    rotate_left
    · exact absurd hF5 hn
    · have hn : R.free < 2 := hn
      omega
    have hx5 : Ext w w5 := hx4.trans' hf5 fun b hb e => by have := g4.lof b e; have := g3.lof.2.2; omega
    have hlo2 := used_lt g5.ar.wf (Or.inr m1.use)
    repeat (first | refine sp ?_ | (refine is_load ?_; refine ld ?_) | (refine is_store ?_; refine sr ?_) | (refine is_alloc ?_; refine al ?_) | (refine is_box ?_; refine bx ?_) | (refine isl_load ?_; refine ldl ?_) | (refine isl_store ?_; refine srl ?_) | (refine isl_alloc ?_; refine all' ?_) | (refine isl_box ?_; refine bxl ?_))
    refine go_call rfl rfl (p_Dump w5 lo p q5 R2 g5.ar) ?_
    rintro _ w6 ⟨hd6, hx6⟩
    obtain ⟨s1, c1, s2, c2, rfl, _, _⟩ := hd6.b
    have hdl := (dump_len g5.ar.wf).1
    repeat (first | refine sp ?_ | (refine is_load ?_; refine ld ?_) | (refine is_store ?_; refine sr ?_) | (refine is_alloc ?_; refine al ?_) | (refine is_box ?_; refine bx ?_) | (refine isl_load ?_; refine ldl ?_) | (refine isl_store ?_; refine srl ?_) | (refine isl_alloc ?_; refine all' ?_) | (refine isl_box ?_; refine bxl ?_))
    refine go_name (F := fun w7 => At w7 w6.heap.size [.slice s1 R2.dump.slots.length c1, .slice s2 R2.dump.free.length c2] 49 ∧ Ext w6 w7) ⟨by (repeat (first | assumption | (refine At.new' (by (first | omega | (simp; done) | (simp; omega))) _ _) | apply At.alloc | apply At.drewN | apply At.setRow | (apply At.setRow_neF; first | assumption | (apply Ne.symm; assumption) | omega) | (apply At.extF; assumption))), by (repeat (first | exact Fr.refl _ _ | assumption | apply Fr.drewN | apply Fr.alloc | (apply Fr.transF; assumption) | (refine Fr.setRow ?_ _ (by first | exact Or.inr (by (first | omega | (simp; done) | (simp; omega))) | (exact Or.inl (by first | assumption | (simp; done)))))))⟩ ?_
    rintro w7 ⟨hbd, hx7⟩
    have hd7 := hd6.ext hx7
    have hrR : t.root = 0 ∨ R2.used t.root = true := hrt.imp id fun h => (kp5.old _ (kp4.old _ h).1).1
    have hx7' := (hx5.trans hx6).trans hx7
    have e1 := dump_nd g5.ar.wf t.root
    have e2 := dump_nd g5.ar.wf o2
    have hbl := hbd.lt
    generalize w6.heap.size = bd at *
    obtain ⟨X, hX⟩ : ∃ X, R2.nodeOf t.root = X := ⟨_, rfl⟩
    obtain ⟨Y, hY⟩ : ∃ Y, R2.nodeOf o2 = Y := ⟨_, rfl⟩
    have cA : ∀ w', Ext w7 w' → Calls Try.prog 34 [.agg ⟨[.slice s1 R2.dump.slots.length c1, .slice s2 R2.dump.free.length c2]⟩, .int .u32 (t.root : Int)].toArray w' (Ret fun r w'' => r = .agg ⟨[.int .i64 X.key, .int .i64 X.val, .int .u32 (X.left : Int), .int .u32 (X.right : Int), .int .i64 X.size, .int .i64 X.sum, .int .i64 X.mn, .int .i64 X.mx]⟩ ∧ Ext w' w'') := by
      intro w' hx'
      refine (c_at12 w' _ _ _ t.root (hd7.ext hx') hdl (used_lt g3.ar.wf hrt)).mono ?_
      rintro _ w'' ⟨r, rfl, rfl, hx''⟩
      exact ⟨_, rfl, by rw [e1, hX]; rfl, hx''⟩
    have cB : ∀ w', Ext w7 w' → Calls Try.prog 34 [.agg ⟨[.slice s1 R2.dump.slots.length c1, .slice s2 R2.dump.free.length c2]⟩, .int .u32 (o2 : Int)].toArray w' (Ret fun r w'' => r = .agg ⟨[.int .i64 Y.key, .int .i64 Y.val, .int .u32 (Y.left : Int), .int .u32 (Y.right : Int), .int .i64 Y.size, .int .i64 Y.sum, .int .i64 Y.mn, .int .i64 Y.mx]⟩ ∧ Ext w' w'') := by
      intro w' hx'
      refine (c_at12 w' _ _ _ o2 (hd7.ext hx') hdl hlo2).mono ?_
      rintro _ w'' ⟨r, rfl, rfl, hx''⟩
      exact ⟨_, rfl, by rw [e2, hY]; rfl, hx''⟩
    refine go_cut (G := Nat × Nat) [17, 18] (fun ⟨bx, by_⟩ => [ptr bx, ptr by_]) [(2, .bool true), (9, .int .u32 (t.root : Int)), (14, .int .u32 (o2 : Int)), (16, ptr bd)]
      (fun ⟨bx, by_⟩ w' => At w' bx [.int .i64 X.key, .int .i64 X.val, .int .u32 (X.left : Int), .int .u32 (X.right : Int), .int .i64 X.size, .int .i64 X.sum, .int .i64 X.mn, .int .i64 X.mx] 64 ∧ At w' by_ [.int .i64 Y.key, .int .i64 Y.val, .int .u32 (Y.left : Int), .int .u32 (Y.right : Int), .int .i64 Y.size, .int .i64 Y.sum, .int .i64 Y.mn, .int .i64 Y.mx] 64 ∧ At w' bd [.slice s1 R2.dump.slots.length c1, .slice s2 R2.dump.free.length c2] 49 ∧ Ext w7 w') ?_ ?_
    · clear g g3 gA g4 g5 kp4 kp5 n1 n2 m1 m2 hd7 hdl e1 e2 hX hY ha hok hF5 h he
      refine go_sched (Fr (fun _ => False) w7) (.op 0 (.op 1 (.op 3 (.op 4 (.alt 2 (.alt 5 (.alt 6 (.op 7 (.op 8 (.op 9 (.fin)))) (.op 7 (.op 6 (.op 8 (.op 9 (.fin)))))) (.alt 6 (.alt 5 (.op 7 (.op 8 (.op 9 (.fin)))) (.op 7 (.op 5 (.op 8 (.op 9 (.fin)))))) (.op 7 (.alt 5 (.op 6 (.op 8 (.op 9 (.fin)))) (.op 6 (.op 5 (.op 8 (.op 9 (.fin))))))))) (.alt 6 (.alt 2 (.alt 5 (.op 7 (.op 8 (.op 9 (.fin)))) (.op 7 (.op 5 (.op 8 (.op 9 (.fin)))))) (.op 7 (.op 2 (.op 5 (.op 8 (.op 9 (.fin))))))) (.op 7 (.alt 2 (.alt 5 (.op 6 (.op 8 (.op 9 (.fin)))) (.op 6 (.op 5 (.op 8 (.op 9 (.fin)))))) (.op 6 (.op 2 (.op 5 (.op 8 (.op 9 (.fin)))))))))))))) Try.follows (by kernel_rfl) (by kernel_rfl) (by kernel_rfl) ((Fr.refl _ _).drewN 1) ?_
      refine go_op rfl ?_
      refine isl_load ?_; refine ldl ?_
      refine gol_nil ?_
      refine go_op rfl ?_
      refine sp ?_
      refine gol_nil ?_
      refine go_op rfl ?_
      refine isl_load ?_; refine ldl ?_
      refine gol_nil ?_
      refine go_op rfl ?_
      refine sp ?_
      refine gol_nil ?_
      refine go_alt rfl ?_ ?_
      · refine gol_call rfl rfl (cA _ (by (repeat (first | exact Fr.refl _ _ | assumption | apply Fr.drewN | apply Fr.alloc | (apply Fr.transF; assumption) | (refine Fr.setRow ?_ _ (by first | exact Or.inr (by (first | omega | (simp; done) | (simp; omega))) | (exact Or.inl (by first | assumption | (simp; done))))))))) ?_
        rintro _ wc ⟨rfl, hxwc⟩
        have hswc := hxwc.size
        try simp at hswc
        refine ⟨by show Ext _ _; (repeat (first | exact Fr.refl _ _ | assumption | apply Fr.drewN | apply Fr.alloc | (apply Fr.transF; assumption) | (refine Fr.setRow ?_ _ (by first | exact Or.inr (by (first | omega | (simp; done) | (simp; omega))) | (exact Or.inl (by first | assumption | (simp; done))))))), ?_⟩
        refine gol_nil ?_
        refine go_alt rfl ?_ ?_
        · refine gol_call rfl rfl (cB _ (by (repeat (first | exact Fr.refl _ _ | assumption | apply Fr.drewN | apply Fr.alloc | (apply Fr.transF; assumption) | (refine Fr.setRow ?_ _ (by first | exact Or.inr (by (first | omega | (simp; done) | (simp; omega))) | (exact Or.inl (by first | assumption | (simp; done))))))))) ?_
          rintro _ wd ⟨rfl, hxwd⟩
          have hswd := hxwd.size
          try simp at hswd
          refine ⟨by show Ext _ _; (repeat (first | exact Fr.refl _ _ | assumption | apply Fr.drewN | apply Fr.alloc | (apply Fr.transF; assumption) | (refine Fr.setRow ?_ _ (by first | exact Or.inr (by (first | omega | (simp; done) | (simp; omega))) | (exact Or.inl (by first | assumption | (simp; done))))))), ?_⟩
          refine gol_nil ?_
          refine go_alt rfl ?_ ?_
          · refine isl_alloc ?_; refine all' ?_
            refine gol_nil ?_
            refine go_op rfl ?_
            refine isl_alloc ?_; refine all' ?_
            refine gol_nil ?_
            refine go_op rfl ?_
            refine isl_store ?_; refine srl ?_
            refine gol_nil ?_
            refine go_op rfl ?_
            refine isl_store ?_; refine srl ?_
            refine gol_nil ?_
            refine go_fin ?_
            exact go_stop (G := Nat × Nat) (_, _) rfl ⟨rfl, rfl, rfl, rfl, trivial⟩ ⟨by (repeat (first | assumption | (refine At.new' (by (first | omega | (simp; done) | (simp; omega))) _ _) | apply At.alloc | apply At.drewN | apply At.setRow | (apply At.setRow_neF; first | assumption | (apply Ne.symm; assumption) | omega) | (apply At.extF; assumption))), by (repeat (first | assumption | (refine At.new' (by (first | omega | (simp; done) | (simp; omega))) _ _) | apply At.alloc | apply At.drewN | apply At.setRow | (apply At.setRow_neF; first | assumption | (apply Ne.symm; assumption) | omega) | (apply At.extF; assumption))), by (repeat (first | assumption | (refine At.new' (by (first | omega | (simp; done) | (simp; omega))) _ _) | apply At.alloc | apply At.drewN | apply At.setRow | (apply At.setRow_neF; first | assumption | (apply Ne.symm; assumption) | omega) | (apply At.extF; assumption))), by show Ext _ _; (repeat (first | exact Fr.refl _ _ | assumption | apply Fr.drewN | apply Fr.alloc | (apply Fr.transF; assumption) | (refine Fr.setRow ?_ _ (by first | exact Or.inr (by (first | omega | (simp; done) | (simp; omega))) | (exact Or.inl (by first | assumption | (simp; done)))))))⟩ trivial
          refine go_op rfl ?_
          refine isl_alloc ?_; refine all' ?_
          refine gol_nil ?_
          refine go_op rfl ?_
          refine isl_alloc ?_; refine all' ?_
          refine gol_nil ?_
          refine go_op rfl ?_
          refine isl_store ?_; refine srl ?_
          refine gol_nil ?_
          refine go_op rfl ?_
          refine isl_store ?_; refine srl ?_
          refine gol_nil ?_
          refine go_fin ?_
          exact go_stop (G := Nat × Nat) (_, _) rfl ⟨rfl, rfl, rfl, rfl, trivial⟩ ⟨by (repeat (first | assumption | (refine At.new' (by (first | omega | (simp; done) | (simp; omega))) _ _) | apply At.alloc | apply At.drewN | apply At.setRow | (apply At.setRow_neF; first | assumption | (apply Ne.symm; assumption) | omega) | (apply At.extF; assumption))), by (repeat (first | assumption | (refine At.new' (by (first | omega | (simp; done) | (simp; omega))) _ _) | apply At.alloc | apply At.drewN | apply At.setRow | (apply At.setRow_neF; first | assumption | (apply Ne.symm; assumption) | omega) | (apply At.extF; assumption))), by (repeat (first | assumption | (refine At.new' (by (first | omega | (simp; done) | (simp; omega))) _ _) | apply At.alloc | apply At.drewN | apply At.setRow | (apply At.setRow_neF; first | assumption | (apply Ne.symm; assumption) | omega) | (apply At.extF; assumption))), by show Ext _ _; (repeat (first | exact Fr.refl _ _ | assumption | apply Fr.drewN | apply Fr.alloc | (apply Fr.transF; assumption) | (refine Fr.setRow ?_ _ (by first | exact Or.inr (by (first | omega | (simp; done) | (simp; omega))) | (exact Or.inl (by first | assumption | (simp; done)))))))⟩ trivial
        refine go_alt rfl ?_ ?_
        · refine isl_alloc ?_; refine all' ?_
          refine gol_nil ?_
          refine go_alt rfl ?_ ?_
          · refine gol_call rfl rfl (cB _ (by (repeat (first | exact Fr.refl _ _ | assumption | apply Fr.drewN | apply Fr.alloc | (apply Fr.transF; assumption) | (refine Fr.setRow ?_ _ (by first | exact Or.inr (by (first | omega | (simp; done) | (simp; omega))) | (exact Or.inl (by first | assumption | (simp; done))))))))) ?_
            rintro _ wd ⟨rfl, hxwd⟩
            have hswd := hxwd.size
            try simp at hswd
            refine ⟨by show Ext _ _; (repeat (first | exact Fr.refl _ _ | assumption | apply Fr.drewN | apply Fr.alloc | (apply Fr.transF; assumption) | (refine Fr.setRow ?_ _ (by first | exact Or.inr (by (first | omega | (simp; done) | (simp; omega))) | (exact Or.inl (by first | assumption | (simp; done))))))), ?_⟩
            refine gol_nil ?_
            refine go_op rfl ?_
            refine isl_alloc ?_; refine all' ?_
            refine gol_nil ?_
            refine go_op rfl ?_
            refine isl_store ?_; refine srl ?_
            refine gol_nil ?_
            refine go_op rfl ?_
            refine isl_store ?_; refine srl ?_
            refine gol_nil ?_
            refine go_fin ?_
            exact go_stop (G := Nat × Nat) (_, _) rfl ⟨rfl, rfl, rfl, rfl, trivial⟩ ⟨by (repeat (first | assumption | (refine At.new' (by (first | omega | (simp; done) | (simp; omega))) _ _) | apply At.alloc | apply At.drewN | apply At.setRow | (apply At.setRow_neF; first | assumption | (apply Ne.symm; assumption) | omega) | (apply At.extF; assumption))), by (repeat (first | assumption | (refine At.new' (by (first | omega | (simp; done) | (simp; omega))) _ _) | apply At.alloc | apply At.drewN | apply At.setRow | (apply At.setRow_neF; first | assumption | (apply Ne.symm; assumption) | omega) | (apply At.extF; assumption))), by (repeat (first | assumption | (refine At.new' (by (first | omega | (simp; done) | (simp; omega))) _ _) | apply At.alloc | apply At.drewN | apply At.setRow | (apply At.setRow_neF; first | assumption | (apply Ne.symm; assumption) | omega) | (apply At.extF; assumption))), by show Ext _ _; (repeat (first | exact Fr.refl _ _ | assumption | apply Fr.drewN | apply Fr.alloc | (apply Fr.transF; assumption) | (refine Fr.setRow ?_ _ (by first | exact Or.inr (by (first | omega | (simp; done) | (simp; omega))) | (exact Or.inl (by first | assumption | (simp; done)))))))⟩ trivial
          refine go_op rfl ?_
          refine isl_alloc ?_; refine all' ?_
          refine gol_nil ?_
          refine go_op rfl ?_
          refine gol_call rfl rfl (cB _ (by (repeat (first | exact Fr.refl _ _ | assumption | apply Fr.drewN | apply Fr.alloc | (apply Fr.transF; assumption) | (refine Fr.setRow ?_ _ (by first | exact Or.inr (by (first | omega | (simp; done) | (simp; omega))) | (exact Or.inl (by first | assumption | (simp; done))))))))) ?_
          rintro _ wd ⟨rfl, hxwd⟩
          have hswd := hxwd.size
          try simp at hswd
          refine ⟨by show Ext _ _; (repeat (first | exact Fr.refl _ _ | assumption | apply Fr.drewN | apply Fr.alloc | (apply Fr.transF; assumption) | (refine Fr.setRow ?_ _ (by first | exact Or.inr (by (first | omega | (simp; done) | (simp; omega))) | (exact Or.inl (by first | assumption | (simp; done))))))), ?_⟩
          refine gol_nil ?_
          refine go_op rfl ?_
          refine isl_store ?_; refine srl ?_
          refine gol_nil ?_
          refine go_op rfl ?_
          refine isl_store ?_; refine srl ?_
          refine gol_nil ?_
          refine go_fin ?_
          exact go_stop (G := Nat × Nat) (_, _) rfl ⟨rfl, rfl, rfl, rfl, trivial⟩ ⟨by (repeat (first | assumption | (refine At.new' (by (first | omega | (simp; done) | (simp; omega))) _ _) | apply At.alloc | apply At.drewN | apply At.setRow | (apply At.setRow_neF; first | assumption | (apply Ne.symm; assumption) | omega) | (apply At.extF; assumption))), by (repeat (first | assumption | (refine At.new' (by (first | omega | (simp; done) | (simp; omega))) _ _) | apply At.alloc | apply At.drewN | apply At.setRow | (apply At.setRow_neF; first | assumption | (apply Ne.symm; assumption) | omega) | (apply At.extF; assumption))), by (repeat (first | assumption | (refine At.new' (by (first | omega | (simp; done) | (simp; omega))) _ _) | apply At.alloc | apply At.drewN | apply At.setRow | (apply At.setRow_neF; first | assumption | (apply Ne.symm; assumption) | omega) | (apply At.extF; assumption))), by show Ext _ _; (repeat (first | exact Fr.refl _ _ | assumption | apply Fr.drewN | apply Fr.alloc | (apply Fr.transF; assumption) | (refine Fr.setRow ?_ _ (by first | exact Or.inr (by (first | omega | (simp; done) | (simp; omega))) | (exact Or.inl (by first | assumption | (simp; done)))))))⟩ trivial
        refine go_op rfl ?_
        refine isl_alloc ?_; refine all' ?_
        refine gol_nil ?_
        refine go_alt rfl ?_ ?_
        · refine gol_call rfl rfl (cB _ (by (repeat (first | exact Fr.refl _ _ | assumption | apply Fr.drewN | apply Fr.alloc | (apply Fr.transF; assumption) | (refine Fr.setRow ?_ _ (by first | exact Or.inr (by (first | omega | (simp; done) | (simp; omega))) | (exact Or.inl (by first | assumption | (simp; done))))))))) ?_
          rintro _ wd ⟨rfl, hxwd⟩
          have hswd := hxwd.size
          try simp at hswd
          refine ⟨by show Ext _ _; (repeat (first | exact Fr.refl _ _ | assumption | apply Fr.drewN | apply Fr.alloc | (apply Fr.transF; assumption) | (refine Fr.setRow ?_ _ (by first | exact Or.inr (by (first | omega | (simp; done) | (simp; omega))) | (exact Or.inl (by first | assumption | (simp; done))))))), ?_⟩
          refine gol_nil ?_
          refine go_op rfl ?_
          refine isl_alloc ?_; refine all' ?_
          refine gol_nil ?_
          refine go_op rfl ?_
          refine isl_store ?_; refine srl ?_
          refine gol_nil ?_
          refine go_op rfl ?_
          refine isl_store ?_; refine srl ?_
          refine gol_nil ?_
          refine go_fin ?_
          exact go_stop (G := Nat × Nat) (_, _) rfl ⟨rfl, rfl, rfl, rfl, trivial⟩ ⟨by (repeat (first | assumption | (refine At.new' (by (first | omega | (simp; done) | (simp; omega))) _ _) | apply At.alloc | apply At.drewN | apply At.setRow | (apply At.setRow_neF; first | assumption | (apply Ne.symm; assumption) | omega) | (apply At.extF; assumption))), by (repeat (first | assumption | (refine At.new' (by (first | omega | (simp; done) | (simp; omega))) _ _) | apply At.alloc | apply At.drewN | apply At.setRow | (apply At.setRow_neF; first | assumption | (apply Ne.symm; assumption) | omega) | (apply At.extF; assumption))), by (repeat (first | assumption | (refine At.new' (by (first | omega | (simp; done) | (simp; omega))) _ _) | apply At.alloc | apply At.drewN | apply At.setRow | (apply At.setRow_neF; first | assumption | (apply Ne.symm; assumption) | omega) | (apply At.extF; assumption))), by show Ext _ _; (repeat (first | exact Fr.refl _ _ | assumption | apply Fr.drewN | apply Fr.alloc | (apply Fr.transF; assumption) | (refine Fr.setRow ?_ _ (by first | exact Or.inr (by (first | omega | (simp; done) | (simp; omega))) | (exact Or.inl (by first | assumption | (simp; done)))))))⟩ trivial
        refine go_op rfl ?_
        refine isl_alloc ?_; refine all' ?_
        refine gol_nil ?_
        refine go_op rfl ?_
        refine gol_call rfl rfl (cB _ (by (repeat (first | exact Fr.refl _ _ | assumption | apply Fr.drewN | apply Fr.alloc | (apply Fr.transF; assumption) | (refine Fr.setRow ?_ _ (by first | exact Or.inr (by (first | omega | (simp; done) | (simp; omega))) | (exact Or.inl (by first | assumption | (simp; done))))))))) ?_
        rintro _ wd ⟨rfl, hxwd⟩
        have hswd := hxwd.size
        try simp at hswd
        refine ⟨by show Ext _ _; (repeat (first | exact Fr.refl _ _ | assumption | apply Fr.drewN | apply Fr.alloc | (apply Fr.transF; assumption) | (refine Fr.setRow ?_ _ (by first | exact Or.inr (by (first | omega | (simp; done) | (simp; omega))) | (exact Or.inl (by first | assumption | (simp; done))))))), ?_⟩
        refine gol_nil ?_
        refine go_op rfl ?_
        refine isl_store ?_; refine srl ?_
        refine gol_nil ?_
        refine go_op rfl ?_
        refine isl_store ?_; refine srl ?_
        refine gol_nil ?_
        refine go_fin ?_
        exact go_stop (G := Nat × Nat) (_, _) rfl ⟨rfl, rfl, rfl, rfl, trivial⟩ ⟨by (repeat (first | assumption | (refine At.new' (by (first | omega | (simp; done) | (simp; omega))) _ _) | apply At.alloc | apply At.drewN | apply At.setRow | (apply At.setRow_neF; first | assumption | (apply Ne.symm; assumption) | omega) | (apply At.extF; assumption))), by (repeat (first | assumption | (refine At.new' (by (first | omega | (simp; done) | (simp; omega))) _ _) | apply At.alloc | apply At.drewN | apply At.setRow | (apply At.setRow_neF; first | assumption | (apply Ne.symm; assumption) | omega) | (apply At.extF; assumption))), by (repeat (first | assumption | (refine At.new' (by (first | omega | (simp; done) | (simp; omega))) _ _) | apply At.alloc | apply At.drewN | apply At.setRow | (apply At.setRow_neF; first | assumption | (apply Ne.symm; assumption) | omega) | (apply At.extF; assumption))), by show Ext _ _; (repeat (first | exact Fr.refl _ _ | assumption | apply Fr.drewN | apply Fr.alloc | (apply Fr.transF; assumption) | (refine Fr.setRow ?_ _ (by first | exact Or.inr (by (first | omega | (simp; done) | (simp; omega))) | (exact Or.inl (by first | assumption | (simp; done)))))))⟩ trivial
      refine go_alt rfl ?_ ?_
      · refine isl_alloc ?_; refine all' ?_
        refine gol_nil ?_
        refine go_alt rfl ?_ ?_
        · refine gol_call rfl rfl (cA _ (by (repeat (first | exact Fr.refl _ _ | assumption | apply Fr.drewN | apply Fr.alloc | (apply Fr.transF; assumption) | (refine Fr.setRow ?_ _ (by first | exact Or.inr (by (first | omega | (simp; done) | (simp; omega))) | (exact Or.inl (by first | assumption | (simp; done))))))))) ?_
          rintro _ wc ⟨rfl, hxwc⟩
          have hswc := hxwc.size
          try simp at hswc
          refine ⟨by show Ext _ _; (repeat (first | exact Fr.refl _ _ | assumption | apply Fr.drewN | apply Fr.alloc | (apply Fr.transF; assumption) | (refine Fr.setRow ?_ _ (by first | exact Or.inr (by (first | omega | (simp; done) | (simp; omega))) | (exact Or.inl (by first | assumption | (simp; done))))))), ?_⟩
          refine gol_nil ?_
          refine go_alt rfl ?_ ?_
          · refine gol_call rfl rfl (cB _ (by (repeat (first | exact Fr.refl _ _ | assumption | apply Fr.drewN | apply Fr.alloc | (apply Fr.transF; assumption) | (refine Fr.setRow ?_ _ (by first | exact Or.inr (by (first | omega | (simp; done) | (simp; omega))) | (exact Or.inl (by first | assumption | (simp; done))))))))) ?_
            rintro _ wd ⟨rfl, hxwd⟩
            have hswd := hxwd.size
            try simp at hswd
            refine ⟨by show Ext _ _; (repeat (first | exact Fr.refl _ _ | assumption | apply Fr.drewN | apply Fr.alloc | (apply Fr.transF; assumption) | (refine Fr.setRow ?_ _ (by first | exact Or.inr (by (first | omega | (simp; done) | (simp; omega))) | (exact Or.inl (by first | assumption | (simp; done))))))), ?_⟩
            refine gol_nil ?_
            refine go_op rfl ?_
            refine isl_alloc ?_; refine all' ?_
            refine gol_nil ?_
            refine go_op rfl ?_
            refine isl_store ?_; refine srl ?_
            refine gol_nil ?_
            refine go_op rfl ?_
            refine isl_store ?_; refine srl ?_
            refine gol_nil ?_
            refine go_fin ?_
            exact go_stop (G := Nat × Nat) (_, _) rfl ⟨rfl, rfl, rfl, rfl, trivial⟩ ⟨by (repeat (first | assumption | (refine At.new' (by (first | omega | (simp; done) | (simp; omega))) _ _) | apply At.alloc | apply At.drewN | apply At.setRow | (apply At.setRow_neF; first | assumption | (apply Ne.symm; assumption) | omega) | (apply At.extF; assumption))), by (repeat (first | assumption | (refine At.new' (by (first | omega | (simp; done) | (simp; omega))) _ _) | apply At.alloc | apply At.drewN | apply At.setRow | (apply At.setRow_neF; first | assumption | (apply Ne.symm; assumption) | omega) | (apply At.extF; assumption))), by (repeat (first | assumption | (refine At.new' (by (first | omega | (simp; done) | (simp; omega))) _ _) | apply At.alloc | apply At.drewN | apply At.setRow | (apply At.setRow_neF; first | assumption | (apply Ne.symm; assumption) | omega) | (apply At.extF; assumption))), by show Ext _ _; (repeat (first | exact Fr.refl _ _ | assumption | apply Fr.drewN | apply Fr.alloc | (apply Fr.transF; assumption) | (refine Fr.setRow ?_ _ (by first | exact Or.inr (by (first | omega | (simp; done) | (simp; omega))) | (exact Or.inl (by first | assumption | (simp; done)))))))⟩ trivial
          refine go_op rfl ?_
          refine isl_alloc ?_; refine all' ?_
          refine gol_nil ?_
          refine go_op rfl ?_
          refine gol_call rfl rfl (cB _ (by (repeat (first | exact Fr.refl _ _ | assumption | apply Fr.drewN | apply Fr.alloc | (apply Fr.transF; assumption) | (refine Fr.setRow ?_ _ (by first | exact Or.inr (by (first | omega | (simp; done) | (simp; omega))) | (exact Or.inl (by first | assumption | (simp; done))))))))) ?_
          rintro _ wd ⟨rfl, hxwd⟩
          have hswd := hxwd.size
          try simp at hswd
          refine ⟨by show Ext _ _; (repeat (first | exact Fr.refl _ _ | assumption | apply Fr.drewN | apply Fr.alloc | (apply Fr.transF; assumption) | (refine Fr.setRow ?_ _ (by first | exact Or.inr (by (first | omega | (simp; done) | (simp; omega))) | (exact Or.inl (by first | assumption | (simp; done))))))), ?_⟩
          refine gol_nil ?_
          refine go_op rfl ?_
          refine isl_store ?_; refine srl ?_
          refine gol_nil ?_
          refine go_op rfl ?_
          refine isl_store ?_; refine srl ?_
          refine gol_nil ?_
          refine go_fin ?_
          exact go_stop (G := Nat × Nat) (_, _) rfl ⟨rfl, rfl, rfl, rfl, trivial⟩ ⟨by (repeat (first | assumption | (refine At.new' (by (first | omega | (simp; done) | (simp; omega))) _ _) | apply At.alloc | apply At.drewN | apply At.setRow | (apply At.setRow_neF; first | assumption | (apply Ne.symm; assumption) | omega) | (apply At.extF; assumption))), by (repeat (first | assumption | (refine At.new' (by (first | omega | (simp; done) | (simp; omega))) _ _) | apply At.alloc | apply At.drewN | apply At.setRow | (apply At.setRow_neF; first | assumption | (apply Ne.symm; assumption) | omega) | (apply At.extF; assumption))), by (repeat (first | assumption | (refine At.new' (by (first | omega | (simp; done) | (simp; omega))) _ _) | apply At.alloc | apply At.drewN | apply At.setRow | (apply At.setRow_neF; first | assumption | (apply Ne.symm; assumption) | omega) | (apply At.extF; assumption))), by show Ext _ _; (repeat (first | exact Fr.refl _ _ | assumption | apply Fr.drewN | apply Fr.alloc | (apply Fr.transF; assumption) | (refine Fr.setRow ?_ _ (by first | exact Or.inr (by (first | omega | (simp; done) | (simp; omega))) | (exact Or.inl (by first | assumption | (simp; done)))))))⟩ trivial
        refine go_op rfl ?_
        refine isl_alloc ?_; refine all' ?_
        refine gol_nil ?_
        refine go_op rfl ?_
        refine gol_call rfl rfl (cA _ (by (repeat (first | exact Fr.refl _ _ | assumption | apply Fr.drewN | apply Fr.alloc | (apply Fr.transF; assumption) | (refine Fr.setRow ?_ _ (by first | exact Or.inr (by (first | omega | (simp; done) | (simp; omega))) | (exact Or.inl (by first | assumption | (simp; done))))))))) ?_
        rintro _ wc ⟨rfl, hxwc⟩
        have hswc := hxwc.size
        try simp at hswc
        refine ⟨by show Ext _ _; (repeat (first | exact Fr.refl _ _ | assumption | apply Fr.drewN | apply Fr.alloc | (apply Fr.transF; assumption) | (refine Fr.setRow ?_ _ (by first | exact Or.inr (by (first | omega | (simp; done) | (simp; omega))) | (exact Or.inl (by first | assumption | (simp; done))))))), ?_⟩
        refine gol_nil ?_
        refine go_op rfl ?_
        refine gol_call rfl rfl (cB _ (by (repeat (first | exact Fr.refl _ _ | assumption | apply Fr.drewN | apply Fr.alloc | (apply Fr.transF; assumption) | (refine Fr.setRow ?_ _ (by first | exact Or.inr (by (first | omega | (simp; done) | (simp; omega))) | (exact Or.inl (by first | assumption | (simp; done))))))))) ?_
        rintro _ wd ⟨rfl, hxwd⟩
        have hswd := hxwd.size
        try simp at hswd
        refine ⟨by show Ext _ _; (repeat (first | exact Fr.refl _ _ | assumption | apply Fr.drewN | apply Fr.alloc | (apply Fr.transF; assumption) | (refine Fr.setRow ?_ _ (by first | exact Or.inr (by (first | omega | (simp; done) | (simp; omega))) | (exact Or.inl (by first | assumption | (simp; done))))))), ?_⟩
        refine gol_nil ?_
        refine go_op rfl ?_
        refine isl_store ?_; refine srl ?_
        refine gol_nil ?_
        refine go_op rfl ?_
        refine isl_store ?_; refine srl ?_
        refine gol_nil ?_
        refine go_fin ?_
        exact go_stop (G := Nat × Nat) (_, _) rfl ⟨rfl, rfl, rfl, rfl, trivial⟩ ⟨by (repeat (first | assumption | (refine At.new' (by (first | omega | (simp; done) | (simp; omega))) _ _) | apply At.alloc | apply At.drewN | apply At.setRow | (apply At.setRow_neF; first | assumption | (apply Ne.symm; assumption) | omega) | (apply At.extF; assumption))), by (repeat (first | assumption | (refine At.new' (by (first | omega | (simp; done) | (simp; omega))) _ _) | apply At.alloc | apply At.drewN | apply At.setRow | (apply At.setRow_neF; first | assumption | (apply Ne.symm; assumption) | omega) | (apply At.extF; assumption))), by (repeat (first | assumption | (refine At.new' (by (first | omega | (simp; done) | (simp; omega))) _ _) | apply At.alloc | apply At.drewN | apply At.setRow | (apply At.setRow_neF; first | assumption | (apply Ne.symm; assumption) | omega) | (apply At.extF; assumption))), by show Ext _ _; (repeat (first | exact Fr.refl _ _ | assumption | apply Fr.drewN | apply Fr.alloc | (apply Fr.transF; assumption) | (refine Fr.setRow ?_ _ (by first | exact Or.inr (by (first | omega | (simp; done) | (simp; omega))) | (exact Or.inl (by first | assumption | (simp; done)))))))⟩ trivial
      refine go_op rfl ?_
      refine isl_alloc ?_; refine all' ?_
      refine gol_nil ?_
      refine go_alt rfl ?_ ?_
      · refine gol_call rfl rfl (cA _ (by (repeat (first | exact Fr.refl _ _ | assumption | apply Fr.drewN | apply Fr.alloc | (apply Fr.transF; assumption) | (refine Fr.setRow ?_ _ (by first | exact Or.inr (by (first | omega | (simp; done) | (simp; omega))) | (exact Or.inl (by first | assumption | (simp; done))))))))) ?_
        rintro _ wc ⟨rfl, hxwc⟩
        have hswc := hxwc.size
        try simp at hswc
        refine ⟨by show Ext _ _; (repeat (first | exact Fr.refl _ _ | assumption | apply Fr.drewN | apply Fr.alloc | (apply Fr.transF; assumption) | (refine Fr.setRow ?_ _ (by first | exact Or.inr (by (first | omega | (simp; done) | (simp; omega))) | (exact Or.inl (by first | assumption | (simp; done))))))), ?_⟩
        refine gol_nil ?_
        refine go_alt rfl ?_ ?_
        · refine gol_call rfl rfl (cB _ (by (repeat (first | exact Fr.refl _ _ | assumption | apply Fr.drewN | apply Fr.alloc | (apply Fr.transF; assumption) | (refine Fr.setRow ?_ _ (by first | exact Or.inr (by (first | omega | (simp; done) | (simp; omega))) | (exact Or.inl (by first | assumption | (simp; done))))))))) ?_
          rintro _ wd ⟨rfl, hxwd⟩
          have hswd := hxwd.size
          try simp at hswd
          refine ⟨by show Ext _ _; (repeat (first | exact Fr.refl _ _ | assumption | apply Fr.drewN | apply Fr.alloc | (apply Fr.transF; assumption) | (refine Fr.setRow ?_ _ (by first | exact Or.inr (by (first | omega | (simp; done) | (simp; omega))) | (exact Or.inl (by first | assumption | (simp; done))))))), ?_⟩
          refine gol_nil ?_
          refine go_op rfl ?_
          refine isl_alloc ?_; refine all' ?_
          refine gol_nil ?_
          refine go_op rfl ?_
          refine isl_store ?_; refine srl ?_
          refine gol_nil ?_
          refine go_op rfl ?_
          refine isl_store ?_; refine srl ?_
          refine gol_nil ?_
          refine go_fin ?_
          exact go_stop (G := Nat × Nat) (_, _) rfl ⟨rfl, rfl, rfl, rfl, trivial⟩ ⟨by (repeat (first | assumption | (refine At.new' (by (first | omega | (simp; done) | (simp; omega))) _ _) | apply At.alloc | apply At.drewN | apply At.setRow | (apply At.setRow_neF; first | assumption | (apply Ne.symm; assumption) | omega) | (apply At.extF; assumption))), by (repeat (first | assumption | (refine At.new' (by (first | omega | (simp; done) | (simp; omega))) _ _) | apply At.alloc | apply At.drewN | apply At.setRow | (apply At.setRow_neF; first | assumption | (apply Ne.symm; assumption) | omega) | (apply At.extF; assumption))), by (repeat (first | assumption | (refine At.new' (by (first | omega | (simp; done) | (simp; omega))) _ _) | apply At.alloc | apply At.drewN | apply At.setRow | (apply At.setRow_neF; first | assumption | (apply Ne.symm; assumption) | omega) | (apply At.extF; assumption))), by show Ext _ _; (repeat (first | exact Fr.refl _ _ | assumption | apply Fr.drewN | apply Fr.alloc | (apply Fr.transF; assumption) | (refine Fr.setRow ?_ _ (by first | exact Or.inr (by (first | omega | (simp; done) | (simp; omega))) | (exact Or.inl (by first | assumption | (simp; done)))))))⟩ trivial
        refine go_op rfl ?_
        refine isl_alloc ?_; refine all' ?_
        refine gol_nil ?_
        refine go_op rfl ?_
        refine gol_call rfl rfl (cB _ (by (repeat (first | exact Fr.refl _ _ | assumption | apply Fr.drewN | apply Fr.alloc | (apply Fr.transF; assumption) | (refine Fr.setRow ?_ _ (by first | exact Or.inr (by (first | omega | (simp; done) | (simp; omega))) | (exact Or.inl (by first | assumption | (simp; done))))))))) ?_
        rintro _ wd ⟨rfl, hxwd⟩
        have hswd := hxwd.size
        try simp at hswd
        refine ⟨by show Ext _ _; (repeat (first | exact Fr.refl _ _ | assumption | apply Fr.drewN | apply Fr.alloc | (apply Fr.transF; assumption) | (refine Fr.setRow ?_ _ (by first | exact Or.inr (by (first | omega | (simp; done) | (simp; omega))) | (exact Or.inl (by first | assumption | (simp; done))))))), ?_⟩
        refine gol_nil ?_
        refine go_op rfl ?_
        refine isl_store ?_; refine srl ?_
        refine gol_nil ?_
        refine go_op rfl ?_
        refine isl_store ?_; refine srl ?_
        refine gol_nil ?_
        refine go_fin ?_
        exact go_stop (G := Nat × Nat) (_, _) rfl ⟨rfl, rfl, rfl, rfl, trivial⟩ ⟨by (repeat (first | assumption | (refine At.new' (by (first | omega | (simp; done) | (simp; omega))) _ _) | apply At.alloc | apply At.drewN | apply At.setRow | (apply At.setRow_neF; first | assumption | (apply Ne.symm; assumption) | omega) | (apply At.extF; assumption))), by (repeat (first | assumption | (refine At.new' (by (first | omega | (simp; done) | (simp; omega))) _ _) | apply At.alloc | apply At.drewN | apply At.setRow | (apply At.setRow_neF; first | assumption | (apply Ne.symm; assumption) | omega) | (apply At.extF; assumption))), by (repeat (first | assumption | (refine At.new' (by (first | omega | (simp; done) | (simp; omega))) _ _) | apply At.alloc | apply At.drewN | apply At.setRow | (apply At.setRow_neF; first | assumption | (apply Ne.symm; assumption) | omega) | (apply At.extF; assumption))), by show Ext _ _; (repeat (first | exact Fr.refl _ _ | assumption | apply Fr.drewN | apply Fr.alloc | (apply Fr.transF; assumption) | (refine Fr.setRow ?_ _ (by first | exact Or.inr (by (first | omega | (simp; done) | (simp; omega))) | (exact Or.inl (by first | assumption | (simp; done)))))))⟩ trivial
      refine go_op rfl ?_
      refine isl_alloc ?_; refine all' ?_
      refine gol_nil ?_
      refine go_op rfl ?_
      refine gol_call rfl rfl (cA _ (by (repeat (first | exact Fr.refl _ _ | assumption | apply Fr.drewN | apply Fr.alloc | (apply Fr.transF; assumption) | (refine Fr.setRow ?_ _ (by first | exact Or.inr (by (first | omega | (simp; done) | (simp; omega))) | (exact Or.inl (by first | assumption | (simp; done))))))))) ?_
      rintro _ wc ⟨rfl, hxwc⟩
      have hswc := hxwc.size
      try simp at hswc
      refine ⟨by show Ext _ _; (repeat (first | exact Fr.refl _ _ | assumption | apply Fr.drewN | apply Fr.alloc | (apply Fr.transF; assumption) | (refine Fr.setRow ?_ _ (by first | exact Or.inr (by (first | omega | (simp; done) | (simp; omega))) | (exact Or.inl (by first | assumption | (simp; done))))))), ?_⟩
      refine gol_nil ?_
      refine go_op rfl ?_
      refine gol_call rfl rfl (cB _ (by (repeat (first | exact Fr.refl _ _ | assumption | apply Fr.drewN | apply Fr.alloc | (apply Fr.transF; assumption) | (refine Fr.setRow ?_ _ (by first | exact Or.inr (by (first | omega | (simp; done) | (simp; omega))) | (exact Or.inl (by first | assumption | (simp; done))))))))) ?_
      rintro _ wd ⟨rfl, hxwd⟩
      have hswd := hxwd.size
      try simp at hswd
      refine ⟨by show Ext _ _; (repeat (first | exact Fr.refl _ _ | assumption | apply Fr.drewN | apply Fr.alloc | (apply Fr.transF; assumption) | (refine Fr.setRow ?_ _ (by first | exact Or.inr (by (first | omega | (simp; done) | (simp; omega))) | (exact Or.inl (by first | assumption | (simp; done))))))), ?_⟩
      refine gol_nil ?_
      refine go_op rfl ?_
      refine isl_store ?_; refine srl ?_
      refine gol_nil ?_
      refine go_op rfl ?_
      refine isl_store ?_; refine srl ?_
      refine gol_nil ?_
      refine go_fin ?_
      exact go_stop (G := Nat × Nat) (_, _) rfl ⟨rfl, rfl, rfl, rfl, trivial⟩ ⟨by (repeat (first | assumption | (refine At.new' (by (first | omega | (simp; done) | (simp; omega))) _ _) | apply At.alloc | apply At.drewN | apply At.setRow | (apply At.setRow_neF; first | assumption | (apply Ne.symm; assumption) | omega) | (apply At.extF; assumption))), by (repeat (first | assumption | (refine At.new' (by (first | omega | (simp; done) | (simp; omega))) _ _) | apply At.alloc | apply At.drewN | apply At.setRow | (apply At.setRow_neF; first | assumption | (apply Ne.symm; assumption) | omega) | (apply At.extF; assumption))), by (repeat (first | assumption | (refine At.new' (by (first | omega | (simp; done) | (simp; omega))) _ _) | apply At.alloc | apply At.drewN | apply At.setRow | (apply At.setRow_neF; first | assumption | (apply Ne.symm; assumption) | omega) | (apply At.extF; assumption))), by show Ext _ _; (repeat (first | exact Fr.refl _ _ | assumption | apply Fr.drewN | apply Fr.alloc | (apply Fr.transF; assumption) | (refine Fr.setRow ?_ _ (by first | exact Or.inr (by (first | omega | (simp; done) | (simp; omega))) | (exact Or.inl (by first | assumption | (simp; done)))))))⟩ trivial
    rintro ⟨bx, by_⟩ w8 ⟨hbx, hby, hbd, hx8⟩
    have hu4 := hF4.1
    have hk0 := kp4.old t.root hu4
    have hk0' := kp5.old t.root hk0.1
    have hXe : X = B.node t.root := by rw [← hX, nodeOf_us hk0'.1, hk0'.2.1, hk0.2.1]
    have hYe : Y = R2.node o2 := by rw [← hY, nodeOf_us m1.use]
    have hp4 := kp4.old _ hF4.2
    have hp5 := kp5.old _ hp4.1
    have ejn : (R.node o).right = j := n1.right
    have y1 : Y.key = X.key := by rw [hYe, m1.key, ejn, n2.key, hXe]
    have y2 : Y.val = X.val := by rw [hYe, m1.val, ejn, n2.val, hXe]
    have y3 : Y.right = X.right := by rw [hYe, m1.right, ejn, n2.right, hXe]
    have y4 : Y.left = j2 := by rw [hYe, m1.left]
    have hEQ : R2.nodeOf Y.left = R2.nodeOf X.left := by
      rw [y4, hXe, nodeOf_us m2.use, nodeOf_us hp5.1]
      have a1 := g5.snd.agg j2 m2.use
      have a2 := g5.snd.agg _ hp5.1
      rw [m2.key, m2.val, m2.left, m2.right, ejn, n1.key, n1.val, n1.left, n2.left] at a1
      rw [hp5.2.1, hp4.2.1] at a2
      rw [a1, hp5.2.1, hp4.2.1]
      exact a2.symm
    have uX : X.left = 0 ∨ R2.used X.left = true := Or.inr (by rw [hXe]; exact hp5.1)
    have uY : Y.left = 0 ∨ R2.used Y.left = true := Or.inr (by rw [y4]; exact m2.use)
    repeat (first | refine sp ?_ | (refine is_load ?_; refine ld ?_) | (refine is_store ?_; refine sr ?_) | (refine is_alloc ?_; refine al ?_) | (refine is_box ?_; refine bx ?_) | (refine isl_load ?_; refine ldl ?_) | (refine isl_store ?_; refine srl ?_) | (refine isl_alloc ?_; refine all' ?_) | (refine isl_box ?_; refine bxl ?_))
    refine go_drawE (Fr (fun _ => False) w8) 0 Try.follows (by kernel_rfl) (by kernel_rfl) (by kernel_rfl) ((Fr.refl _ _).drewN 1) ?_
    repeat (first | refine sp ?_ | (refine is_load ?_; refine ld ?_) | (refine is_store ?_; refine sr ?_) | (refine is_alloc ?_; refine al ?_) | (refine is_box ?_; refine bx ?_) | (refine isl_load ?_; refine ldl ?_) | (refine isl_store ?_; refine srl ?_) | (refine isl_alloc ?_; refine all' ?_) | (refine isl_box ?_; refine bxl ?_))
    refine gol_call rfl rfl (c_is _ Y X Y.left X.right y1 y2 rfl y3) ?_
    rintro _ w9 ⟨rfl, hx9⟩
    have hx9' : Ext w8 w9 := Fr.trans ((Fr.refl _ _).drewN 1) hx9
    refine ⟨hx9', ?_⟩
    repeat (first | refine sp ?_ | (refine is_load ?_; refine ld ?_) | (refine is_store ?_; refine sr ?_) | (refine is_alloc ?_; refine al ?_) | (refine is_box ?_; refine bx ?_) | (refine isl_load ?_; refine ldl ?_) | (refine isl_store ?_; refine srl ?_) | (refine isl_alloc ?_; refine all' ?_) | (refine isl_box ?_; refine bxl ?_))
    refine gol_call rfl rfl (c_at12 w9 _ _ _ Y.left (hd7.ext (hx8.trans hx9')) hdl (used_lt g5.ar.wf uY)) ?_
    rintro _ w10 ⟨rfl, hx10⟩
    refine ⟨hx9'.trans hx10, ?_⟩
    repeat (first | refine sp ?_ | (refine is_load ?_; refine ld ?_) | (refine is_store ?_; refine sr ?_) | (refine is_alloc ?_; refine al ?_) | (refine is_box ?_; refine bx ?_) | (refine isl_load ?_; refine ldl ?_) | (refine isl_store ?_; refine srl ?_) | (refine isl_alloc ?_; refine all' ?_) | (refine isl_box ?_; refine bxl ?_))
    refine gol_call rfl rfl (c_at12 w10 _ _ _ X.left (hd7.ext ((hx8.trans hx9').trans hx10)) hdl (used_lt g5.ar.wf uX)) ?_
    rintro _ w11 ⟨rfl, hx11⟩
    refine ⟨(hx9'.trans hx10).trans hx11, ?_⟩
    rw [dump_nd g5.ar.wf, dump_nd g5.ar.wf, hEQ]
    generalize R2.nodeOf X.left = NN
    unfold Nd.cells
    repeat (first | refine sp ?_ | (refine is_load ?_; refine ld ?_) | (refine is_store ?_; refine sr ?_) | (refine is_alloc ?_; refine al ?_) | (refine is_box ?_; refine bx ?_) | (refine isl_load ?_; refine ldl ?_) | (refine isl_store ?_; refine srl ?_) | (refine isl_alloc ?_; refine all' ?_) | (refine isl_box ?_; refine bxl ?_))
    exact go_ret1 rfl rfl ⟨_, rfl, by rw [show eqL [.int .i64 NN.key, .int .i64 NN.val, .int .u32 (NN.left : Int), .int .u32 (NN.right : Int), .int .i64 NN.size, .int .i64 NN.sum, .int .i64 NN.mn, .int .i64 NN.mx] [.int .i64 NN.key, .int .i64 NN.val, .int .u32 (NN.left : Int), .int .u32 (NN.right : Int), .int .i64 NN.size, .int .i64 NN.sum, .int .i64 NN.mn, .int .i64 NN.mx] = true by simp [eqL]], (((hx7'.trans hx8).trans hx9').trans hx10).trans hx11⟩


end Go.Proofs.Ytklgmomhdlhajaa
