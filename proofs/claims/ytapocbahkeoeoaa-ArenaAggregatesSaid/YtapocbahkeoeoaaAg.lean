/-
  The aggregates of the nodes that are held.
-/
import Derived.Test.YtapocbahkeoeoaaL5e
set_option linter.unusedVariables false
namespace Go.Proofs.Ytapocbahkeoeoaa
open Go.Vc

theorem w64_w64 (z : Int) : w64 (w64 z) = w64 z := w64_in (w64_bd z)
theorem node_agg {A : AR} {h : Nat → Nat} (s : Sound A h) {i : Nat} (hu : A.used i = true) (hv : -9223372036854775808 ≤ (A.node i).val ∧ (A.node i).val ≤ 9223372036854775807) :
    (A.node i).size = w64 (w64 (1 + (A.nodeOf (A.node i).left).size) + (A.nodeOf (A.node i).right).size) ∧
    (A.node i).sum = w64 (w64 ((A.node i).val + (A.nodeOf (A.node i).left).sum) + (A.nodeOf (A.node i).right).sum) ∧
    (A.node i).mn = (if (A.node i).right = 0 then (if (A.node i).left = 0 then (A.node i).val else min (A.node i).val (A.nodeOf (A.node i).left).mn) else min (if (A.node i).left = 0 then (A.node i).val else min (A.node i).val (A.nodeOf (A.node i).left).mn) (A.nodeOf (A.node i).right).mn) ∧
    (A.node i).mx = (if (A.node i).right = 0 then (if (A.node i).left = 0 then (A.node i).val else max (A.node i).val (A.nodeOf (A.node i).left).mx) else max (if (A.node i).left = 0 then (A.node i).val else max (A.node i).val (A.nodeOf (A.node i).left).mx) (A.nodeOf (A.node i).right).mx) := by
  have e := s.agg i hu
  obtain ⟨kl, kr⟩ := s.kid i hu
  have h0 : A.nodeOf 0 = Nd.zero := by unfold AR.nodeOf; rw [s.wf.u0]; rfl
  have hn : ∀ c, c = 0 ∨ A.used c = true → c ≠ 0 → A.nodeOf c = A.node c := fun c hc hne => by
    unfold AR.nodeOf
    rw [hc.resolve_left hne]; rfl
  generalize A.node i = N at *
  obtain ⟨k, v, l, r, sz, sm, mn, mx⟩ := N
  simp only at kl kr hv e ⊢
  have z1 : (1 : Int) + 0 = 1 := rfl
  have z2 : w64 1 = 1 := w64_in (by omega)
  have z3 : w64 v = v := w64_in hv
  unfold mkN addC at e
  by_cases e1 : l = 0
  · subst e1
    by_cases e2 : r = 0
    · subst e2
      simp only [if_true, Nd.mk.injEq] at e
      rw [h0]
      simp [Nd.zero, z2, z3, e]
    · rw [h0, hn r kr e2]
      simp only [if_true, if_neg e2, Nd.mk.injEq] at e
      simp [Nd.zero, z2, z3, e, e2]
  · by_cases e2 : r = 0
    · subst e2
      rw [h0, hn l kl e1]
      simp only [if_true, if_neg e1, Nd.mk.injEq] at e
      simp [Nd.zero, e, e1, w64_w64]
    · rw [hn r kr e2, hn l kl e1]
      simp only [if_neg e1, if_neg e2, Nd.mk.injEq] at e
      simp [e, e1, e2]

set_option maxHeartbeats 8000000 in
theorem c_LawAggregates (cap : Int) (lv : Value) (l : List Stp) (w : World) (h : Rd w 0 lv Stp.cells l) (hw : ∀ s ∈ l, s.wf) (hlen : l.length ≤ 9223372036854775807) (hcp : -9223372036854775808 ≤ cap ∧ cap ≤ 9223372036854775807) :
    Calls Try.prog 7 [.int .i64 cap, lv].toArray w (Ret fun r w' => r = .bool true ∧ Ext w w') := by
  have m1 := Int.emod_nonneg cap (show (14 : Int) ≠ 0 by omega)
  have m2 := Int.emod_lt_of_pos cap (show (0 : Int) < 14 by omega)
  refine calls_go Try.func7 rfl Try.ntmps7 (Nat.le_of_ble_eq_true rfl) ?_
  repeat (first | refine sp ?_ | (refine is_load ?_; refine ld ?_) | (refine is_store ?_; refine sr ?_) | (refine is_alloc ?_; refine al ?_) | (refine is_box ?_; refine bx ?_) | (refine isl_load ?_; refine ldl ?_) | (refine isl_store ?_; refine srl ?_) | (refine isl_alloc ?_; refine all' ?_) | (refine isl_box ?_; refine bxl ?_) | refine dr Try.follows ?_)
  refine go_call rfl rfl (c_Mod cap 14 _ hcp (by omega)) ?_
  rintro _ w ⟨rfl, rfl⟩
  obtain ⟨n, hn⟩ : ∃ n : Nat, 1 + cap % 14 = (n : Int) := ⟨(1 + cap % 14).toNat, by omega⟩
  repeat (first | refine sp ?_ | (refine is_load ?_; refine ld ?_) | (refine is_store ?_; refine sr ?_) | (refine is_alloc ?_; refine al ?_) | (refine is_box ?_; refine bx ?_) | (refine isl_load ?_; refine ldl ?_) | (refine isl_store ?_; refine srl ?_) | (refine isl_alloc ?_; refine all' ?_) | (refine isl_box ?_; refine bxl ?_) | refine dr Try.follows ?_)
  refine go_as 19 (u' := .int .i64 (n : Int)) rfl (by rw [hn]) ?_
  refine go_call rfl rfl (c_play n lv l _ h hw hlen (by omega) (by omega)) ?_
  rintro _ w1 ⟨c, p, q, A, hv, H, rfl, g, hcap, hH, hx⟩
  repeat (first | refine sp ?_ | (refine is_load ?_; refine ld ?_) | (refine is_store ?_; refine sr ?_) | (refine is_alloc ?_; refine al ?_) | (refine is_box ?_; refine bx ?_) | (refine isl_load ?_; refine ldl ?_) | (refine isl_store ?_; refine srl ?_) | (refine isl_alloc ?_; refine all' ?_) | (refine isl_box ?_; refine bxl ?_) | refine dr Try.follows ?_)
  refine go_call rfl rfl (c_awake w1) ?_
  rintro _ w2 ⟨rfl, hx2⟩
  replace g := g.ext hx2
  have hx2' := hx.trans hx2
  repeat (first | refine sp ?_ | (refine is_load ?_; refine ld ?_) | (refine is_store ?_; refine sr ?_) | (refine is_alloc ?_; refine al ?_) | (refine is_box ?_; refine bx ?_) | (refine isl_load ?_; refine ldl ?_) | (refine isl_store ?_; refine srl ?_) | (refine isl_alloc ?_; refine all' ?_) | (refine isl_box ?_; refine bxl ?_) | refine dr Try.follows ?_)
  clear hx hx2
  refine go_loop (G := Nat × AR) [7] (fun ⟨k, _⟩ => [.int .i64 (k : Int)]) [(5, ptr c)]
    (fun ⟨k, A⟩ w' => k ≤ H.length ∧ k ≤ 20 ∧ CliAt w' w.heap.size c p q A hv H ∧ Ext w w') (fun g => H.length - g.1) (0, A) rfl ⟨rfl, trivial⟩
    ⟨by omega, by omega, g, hx2'⟩ ?_
  clear g hcap A hx2'
  rintro ⟨k, A⟩ w2 ⟨hk, hk20, g, hx2⟩
  have hc := g.hc
  obtain ⟨sv, cv, rfl, hcv, hr⟩ := g.ho.slice
  by_cases hlt : k < H.length
  · by_cases hlt2 : k < 20
    · obtain ⟨b, o, rfl, hcell⟩ := hr k (.int .u32 ((H[k] : Nat) : Int)) (by simp [hlt])
      have hcp' : c ≠ p := fun e => g.ar.apart hc (by decide) (by decide) (by decide) (by decide) (by decide) (by decide) (e ▸ g.ar.fpp)
      have hbp : b ≠ p := fun e => g.dis b rfl (e ▸ g.ar.fpp)
      have hi30 := g.mem_le (List.getElem_mem hlt)
      have hiu := g.mem (List.getElem_mem hlt)
      generalize H[k] = i at hcell hi30 hiu
      repeat (first | refine sp ?_ | (refine is_load ?_; refine ld ?_) | (refine is_store ?_; refine sr ?_) | (refine is_alloc ?_; refine al ?_) | (refine is_box ?_; refine bx ?_) | (refine isl_load ?_; refine ldl ?_) | (refine isl_store ?_; refine srl ?_) | (refine isl_alloc ?_; refine all' ?_) | (refine isl_box ?_; refine bxl ?_))
      obtain ⟨N, hN⟩ : ∃ N, A.nodeOf i = N := ⟨_, rfl⟩
      have hw2 := g.ar.lt p g.ar.fpp
      refine go_cut (G := Nat) [8] (fun nb => [ptr nb]) [(5, ptr c), (7, .int .i64 (k : Int)), (9, .bool (A.used i))]
        (fun nb w' => w2.heap.size ≤ nb ∧ At w' nb N.cells 50 ∧ CliAt w' w.heap.size c p q (A.read i) (Value.slice (some ⟨b, o, none⟩) H.length cv) H ∧ Fr (fun b => b = p) w2 w') ?_ ?_
      · refine go_sched (Fr (fun b => b = p) w2) (.op 0 (.op 1 (.op 2 (.op 3 (.op 4 (.op 5 (.op 6 (.op 7 (.op 8 (.op 9 (.op 10 (.alt 11 (.op 12 (.op 13 (.op 15 (.op 16 (.op 14 (.op 17 (.fin))))))) (.op 15 (.op 11 (.op 12 (.op 13 (.op 16 (.op 14 (.op 17 (.fin)))))))))))))))))))) Try.follows (by kernel_rfl) (by kernel_rfl) (by kernel_rfl) ((Fr.refl _ _).drewN 1) ?_
        repeat' (first
          | refine go_alt rfl ?_ ?_
          | refine sp ?_
          | (refine isl_load ?_; refine ldl ?_)
          | (refine isl_alloc ?_; refine all' ?_)
          | (refine isl_store ?_; refine srl ?_)
          | (refine gol_call rfl rfl (p_Node _ _ p q A i (g.ar.ext (by (repeat (first | exact Fr.refl _ _ | assumption | apply Fr.drewN | apply Fr.alloc | (apply Fr.transF; assumption) | (refine Fr.setRow ?_ _ (by first | exact Or.inr (by (first | omega | (simp; done) | (simp; omega))) | (exact Or.inl (by first | assumption | (simp; done))))))))) (by omega)) ?_; rintro _ w3 ⟨rfl, ha, hf⟩; rw [hN]; unfold Nd.cells; have hsz := hf.size; simp at hsz; have hD3 : Fr (fun b => b = p) w2 w3 := Fr.trans (by (repeat (first | exact Fr.refl _ _ | assumption | apply Fr.drewN | apply Fr.alloc | (apply Fr.transF; assumption) | (refine Fr.setRow ?_ _ (by first | exact Or.inr (by (first | omega | (simp; done) | (simp; omega))) | (exact Or.inl (by first | assumption | (simp; done)))))))) hf; (try (have hz : At w3 w2.heap.size [.int .i64 0, .int .i64 0, .int .u32 0, .int .u32 0, .int .i64 0, .int .i64 0, .int .i64 0, .int .i64 0] 50 := At.fr (At.new (w2.drewN 1) _ _) hf (fun e => absurd (show w2.heap.size = p from e) (by omega)))); refine ⟨hD3, ?_⟩))
        all_goals (first | refine go_stop (G := Nat) w3.heap.size rfl ⟨rfl, rfl, rfl, trivial⟩ ⟨?_, ?_, ?_, ?_⟩ trivial | refine go_stop (G := Nat) w2.heap.size rfl ⟨rfl, rfl, rfl, trivial⟩ ⟨?_, ?_, ?_, ?_⟩ trivial)
        · omega
        · (repeat (first | assumption | (refine At.new' (by (first | omega | (simp; done) | (simp; omega))) _ _) | apply At.alloc | apply At.drewN | apply At.setRow | (apply At.setRow_neF; first | assumption | (apply Ne.symm; assumption) | omega) | (apply At.extF; assumption)))
        · refine (g.read (ArP.fr ha (S := fun b => w2.heap.size ≤ b) (by (repeat (first | exact Fr.refl _ _ | assumption | apply Fr.drewN | apply Fr.alloc | (apply Fr.transF; assumption) | (refine Fr.setRow ?_ _ (by first | exact Or.inr (by (first | omega | (simp; done) | (simp; omega))) | (exact Or.inl (by first | assumption | (simp; done)))))))) fun b hb hs => by have := g.ar.lt b hb; omega) ?_).1
          (repeat (first | exact Fr.refl _ _ | assumption | apply Fr.drewN | apply Fr.alloc | (apply Fr.transF; assumption) | (refine Fr.setRow ?_ _ (by first | exact Or.inr (by (first | omega | (simp; done) | (simp; omega))) | (exact Or.inl (by first | assumption | (simp; done)))))))
        · (repeat (first | exact Fr.refl _ _ | assumption | apply Fr.drewN | apply Fr.alloc | (apply Fr.transF; assumption) | (refine Fr.setRow ?_ _ (by first | exact Or.inr (by (first | omega | (simp; done) | (simp; omega))) | (exact Or.inl (by first | assumption | (simp; done)))))))
        · exact Nat.le_refl _
        · (repeat (first | assumption | (refine At.new' (by (first | omega | (simp; done) | (simp; omega))) _ _) | apply At.alloc | apply At.drewN | apply At.setRow | (apply At.setRow_neF; first | assumption | (apply Ne.symm; assumption) | omega) | (apply At.extF; assumption)))
        · refine (g.read (ArP.fr ha (S := fun b => w2.heap.size ≤ b) (by (repeat (first | exact Fr.refl _ _ | assumption | apply Fr.drewN | apply Fr.alloc | (apply Fr.transF; assumption) | (refine Fr.setRow ?_ _ (by first | exact Or.inr (by (first | omega | (simp; done) | (simp; omega))) | (exact Or.inl (by first | assumption | (simp; done)))))))) fun b hb hs => by have := g.ar.lt b hb; omega) ?_).1
          (repeat (first | exact Fr.refl _ _ | assumption | apply Fr.drewN | apply Fr.alloc | (apply Fr.transF; assumption) | (refine Fr.setRow ?_ _ (by first | exact Or.inr (by (first | omega | (simp; done) | (simp; omega))) | (exact Or.inl (by first | assumption | (simp; done)))))))
        · (repeat (first | exact Fr.refl _ _ | assumption | apply Fr.drewN | apply Fr.alloc | (apply Fr.transF; assumption) | (refine Fr.setRow ?_ _ (by first | exact Or.inr (by (first | omega | (simp; done) | (simp; omega))) | (exact Or.inl (by first | assumption | (simp; done)))))))
      · rintro nb w4 ⟨hnb, hN4, g4, hf4⟩
        have hc4 := g4.hc
        have hcell4 : w4.cell? ⟨b, o + k, none⟩ = some (.int .u32 (i : Int)) := hf4.cell hcell hbp
        unfold Nd.cells at hN4
        obtain h0 | h0 : i = 0 ∨ 1 ≤ i := by omega
        · subst h0
          rw [show A.used 0 = false from g.ar.wf.u0]
          repeat (first | refine sp ?_ | (refine is_load ?_; refine ld ?_) | (refine is_store ?_; refine sr ?_) | (refine is_alloc ?_; refine al ?_) | (refine is_box ?_; refine bx ?_) | (refine isl_load ?_; refine ldl ?_) | (refine isl_store ?_; refine srl ?_) | (refine isl_alloc ?_; refine all' ?_) | (refine isl_box ?_; refine bxl ?_))
          exact go_stop (G := Nat × AR) (k + 1, A.read 0) rfl ⟨rfl, trivial⟩ ⟨hlt, hlt2, g4, hx2.trans' hf4 fun b hb e => by have := g.lof p g.ar.fpp; omega⟩ (by show H.length - (k + 1) < H.length - k; omega)
        have hu : A.used i = true := by
          rcases hiu with e | e
          · omega
          · exact e
        rw [hu]
        have hNN : A.node i = N := by rw [← hN]; unfold AR.nodeOf; rw [if_pos hu]
        have hch := g.ar.ok.ch i hu
        rw [hNN] at hch
        have hcapw := g.ar.wf.capM
        have hnbp : ¬ (nb = p) := fun e => by omega
        obtain ⟨A1, hA1⟩ : ∃ A1, A.read i = A1 := ⟨_, rfl⟩
        rw [hA1] at g4
        have hw4 := hf4.size
        obtain ⟨Y, hY⟩ : ∃ Y, A1.nodeOf N.left = Y := ⟨_, rfl⟩
        obtain ⟨Z, hZ'⟩ : ∃ Z, A1.nodeOf N.right = Z := ⟨_, rfl⟩
        have hZ : (A1.read N.left).nodeOf N.right = Z := by rw [(read_eqs A1 N.left).2.2.2.2.1]; exact hZ'
        repeat (first | refine sp ?_ | (refine is_load ?_; refine ld ?_) | (refine is_store ?_; refine sr ?_) | (refine is_alloc ?_; refine al ?_) | (refine is_box ?_; refine bx ?_) | (refine isl_load ?_; refine ldl ?_) | (refine isl_store ?_; refine srl ?_) | (refine isl_alloc ?_; refine all' ?_) | (refine isl_box ?_; refine bxl ?_))
        have hagg := node_agg g.snd hu (g.vr i hu)
        rw [hNN] at hagg
        have hY0 : A.nodeOf N.left = Y := by rw [← hY, ← hA1, (read_eqs A i).2.2.2.2.1]
        have hZ0 : A.nodeOf N.right = Z := by rw [← hZ', ← hA1, (read_eqs A i).2.2.2.2.1]
        rw [hY0, hZ0] at hagg
        clear hY0 hZ0
        have hnl := hN4.lt
        have hnp : nb ≠ p := fun e => hnbp e
        have hpl4 := g4.ar.lt p g4.ar.fpp
        have hidx : N.left < 4294967296 ∧ N.right < 4294967296 := by omega
        obtain ⟨hi1, hi2⟩ := hidx
        clear hch hcapw
        refine go_cut (G := Nat × Nat) [10, 11] (fun ⟨x, y⟩ => [ptr x, ptr y]) [(5, ptr c), (7, .int .i64 (k : Int)), (9, .bool true), (8, ptr nb)]
          (fun ⟨x, y⟩ w' => At w' nb [.int .i64 N.key, .int .i64 N.val, .int .u32 (N.left : Int), .int .u32 (N.right : Int), .int .i64 N.size, .int .i64 N.sum, .int .i64 N.mn, .int .i64 N.mx] 50 ∧ At w' x [.int .i64 Y.key, .int .i64 Y.val, .int .u32 (Y.left : Int), .int .u32 (Y.right : Int), .int .i64 Y.size, .int .i64 Y.sum, .int .i64 Y.mn, .int .i64 Y.mx] 50 ∧ At w' y [.int .i64 Z.key, .int .i64 Z.val, .int .u32 (Z.left : Int), .int .u32 (Z.right : Int), .int .i64 Z.size, .int .i64 Z.sum, .int .i64 Z.mn, .int .i64 Z.mx] 50 ∧ CliAt w' w.heap.size c p q ((A1.read N.left).read N.right) (Value.slice (some ⟨b, o, none⟩) H.length cv) H ∧ Fr (fun b => b = p) w4 w') ?_ ?_
        · refine go_sched (Fr (fun b => b = p) w4) (.op 0 (.op 1 (.op 2 (.op 4 (.op 5 (.op 6 (.alt 3 (.alt 7 (.alt 8 (.op 9 (.op 10 (.op 11 (.fin)))) (.op 9 (.op 8 (.op 10 (.op 11 (.fin)))))) (.alt 8 (.alt 7 (.op 9 (.op 10 (.op 11 (.fin)))) (.op 9 (.op 7 (.op 10 (.op 11 (.fin)))))) (.op 9 (.alt 7 (.op 8 (.op 10 (.op 11 (.fin)))) (.op 8 (.op 7 (.op 10 (.op 11 (.fin))))))))) (.alt 8 (.alt 3 (.alt 7 (.op 9 (.op 10 (.op 11 (.fin)))) (.op 9 (.op 7 (.op 10 (.op 11 (.fin)))))) (.op 9 (.op 3 (.op 7 (.op 10 (.op 11 (.fin))))))) (.op 9 (.alt 3 (.alt 7 (.op 8 (.op 10 (.op 11 (.fin)))) (.op 8 (.op 7 (.op 10 (.op 11 (.fin)))))) (.op 8 (.op 3 (.op 7 (.op 10 (.op 11 (.fin)))))))))))))))) Try.follows (by kernel_rfl) (by kernel_rfl) (by kernel_rfl) ((Fr.refl _ _).drewN 1) ?_
          refine go_name (F := fun y => CliAt y w.heap.size c p q A1 (Value.slice (some ⟨b, o, none⟩) H.length cv) H ∧ At y nb [.int .i64 N.key, .int .i64 N.val, .int .u32 (N.left : Int), .int .u32 (N.right : Int), .int .i64 N.size, .int .i64 N.sum, .int .i64 N.mn, .int .i64 N.mx] 50 ∧ Fr (fun b => b = p) w4 y) ⟨g4.ext ((Fr.refl _ _).drewN 1), hN4.ext ((Fr.refl _ _).drewN 1), (Fr.refl _ _).drewN 1⟩ ?_
          rintro w4s ⟨gg, hN, hF⟩
          refine go_op rfl ?_
          refine sp ?_
          refine gol_nil ?_
          refine go_op rfl ?_
          refine sp ?_
          refine gol_nil ?_
          refine go_op rfl ?_
          refine isl_load ?_; refine ldl ?_
          refine gol_nil ?_
          refine go_op rfl ?_
          refine sp ?_
          refine gol_nil ?_
          refine go_op rfl ?_
          refine sp ?_
          refine gol_nil ?_
          refine go_op rfl ?_
          refine isl_load ?_; refine ldl ?_
          refine gol_nil ?_
          refine go_alt rfl ?_ ?_
          · refine gol_call rfl rfl (c_below _ _ c p q A1 _ H N.left gg (by omega)) ?_
            rintro _ x1 ⟨rfl, gg2, hf⟩
            rw [hY]; unfold Nd.cells
            have hF2 : Fr (fun b => b = p) w4 x1 := hF.trans hf
            have hN2 := hN.fr hf hnp
            refine ⟨hF2, ?_⟩
            clear gg hF hN
            have gg := gg2
            have hF := hF2
            have hN := hN2
            clear gg2 hF2 hN2
            refine gol_nil ?_
            refine go_alt rfl ?_ ?_
            · refine gol_call rfl rfl (c_below _ _ c p q (A1.read N.left) _ H N.right gg (by omega)) ?_
              rintro _ x2 ⟨rfl, gg2, hf⟩
              rw [hZ]; unfold Nd.cells
              have hF2 : Fr (fun b => b = p) w4 x2 := hF.trans hf
              have hN2 := hN.fr hf hnp
              refine ⟨hF2, ?_⟩
              clear gg hF hN
              have gg := gg2
              have hF := hF2
              have hN := hN2
              clear gg2 hF2 hN2
              refine gol_nil ?_
              refine go_alt rfl ?_ ?_
              · refine isl_alloc ?_; refine all' ?_
                have hF2 : Fr (fun b => b = p) w4 (x2.alloc (.cells ([.int .i64 0, .int .i64 0, .int .u32 0, .int .u32 0, .int .i64 0, .int .i64 0, .int .i64 0, .int .i64 0] : List Value).toArray 50)) := by (repeat (first | exact Fr.refl _ _ | assumption | apply Fr.drewN | apply Fr.alloc | (apply Fr.transF; assumption) | (refine Fr.setRow ?_ _ (by first | exact Or.inr (by (first | omega | (simp; done) | (simp; omega))) | (exact Or.inl (by first | assumption | (simp; done)))))))
                have hqb10 : w4.heap.size ≤ x2.heap.size := hF.size
                have hpz : p < x2.heap.size := by have := hF.size; omega
                have hnz : nb < x2.heap.size := by have := hN.lt; omega
                refine go_name (F := fun y => (CliAt y w.heap.size c p q ((A1.read N.left).read N.right) (Value.slice (some ⟨b, o, none⟩) H.length cv) H ∧ At y nb [.int .i64 N.key, .int .i64 N.val, .int .u32 (N.left : Int), .int .u32 (N.right : Int), .int .i64 N.size, .int .i64 N.sum, .int .i64 N.mn, .int .i64 N.mx] 50 ∧ Fr (fun b => b = p) w4 y ∧ At y x2.heap.size [.int .i64 0, .int .i64 0, .int .u32 0, .int .u32 0, .int .i64 0, .int .i64 0, .int .i64 0, .int .i64 0] 50) ∧ y.heap.size = x2.heap.size + 1) ⟨⟨gg.ext (by (repeat (first | exact Fr.refl _ _ | assumption | apply Fr.drewN | apply Fr.alloc | (apply Fr.transF; assumption) | (refine Fr.setRow ?_ _ (by first | exact Or.inr (by (first | omega | (simp; done) | (simp; omega))) | (exact Or.inl (by first | assumption | (simp; done)))))))), by (repeat (first | assumption | (refine At.new' (by (first | omega | (simp; done) | (simp; omega))) _ _) | apply At.alloc | apply At.drewN | apply At.setRow | (apply At.setRow_neF; first | assumption | (apply Ne.symm; assumption) | omega) | (apply At.extF; assumption))), hF2, by (repeat (first | assumption | (refine At.new' (by (first | omega | (simp; done) | (simp; omega))) _ _) | apply At.alloc | apply At.drewN | apply At.setRow | (apply At.setRow_neF; first | assumption | (apply Ne.symm; assumption) | omega) | (apply At.extF; assumption)))⟩, by simp⟩ ?_
                clear hF2 hnz
                rintro x3 ⟨⟨gg, hN, hF, hb10⟩, hz⟩
                have hp_x3 : p < x2.heap.size := hpz
                refine gol_nil ?_
                refine go_op rfl ?_
                refine isl_alloc ?_; refine all' ?_
                have hF2 : Fr (fun b => b = p) w4 (x3.alloc (.cells ([.int .i64 0, .int .i64 0, .int .u32 0, .int .u32 0, .int .i64 0, .int .i64 0, .int .i64 0, .int .i64 0] : List Value).toArray 50)) := by (repeat (first | exact Fr.refl _ _ | assumption | apply Fr.drewN | apply Fr.alloc | (apply Fr.transF; assumption) | (refine Fr.setRow ?_ _ (by first | exact Or.inr (by (first | omega | (simp; done) | (simp; omega))) | (exact Or.inl (by first | assumption | (simp; done)))))))
                have hqb11 : w4.heap.size ≤ x3.heap.size := hF.size
                have hpz : p < x3.heap.size := by have := hF.size; omega
                have hnz : nb < x3.heap.size := by have := hN.lt; omega
                have hlb10 := hb10.lt
                refine go_name (F := fun y => (CliAt y w.heap.size c p q ((A1.read N.left).read N.right) (Value.slice (some ⟨b, o, none⟩) H.length cv) H ∧ At y nb [.int .i64 N.key, .int .i64 N.val, .int .u32 (N.left : Int), .int .u32 (N.right : Int), .int .i64 N.size, .int .i64 N.sum, .int .i64 N.mn, .int .i64 N.mx] 50 ∧ Fr (fun b => b = p) w4 y ∧ At y x2.heap.size [.int .i64 0, .int .i64 0, .int .u32 0, .int .u32 0, .int .i64 0, .int .i64 0, .int .i64 0, .int .i64 0] 50 ∧ At y x3.heap.size [.int .i64 0, .int .i64 0, .int .u32 0, .int .u32 0, .int .i64 0, .int .i64 0, .int .i64 0, .int .i64 0] 50) ∧ y.heap.size = x3.heap.size + 1) ⟨⟨gg.ext (by (repeat (first | exact Fr.refl _ _ | assumption | apply Fr.drewN | apply Fr.alloc | (apply Fr.transF; assumption) | (refine Fr.setRow ?_ _ (by first | exact Or.inr (by (first | omega | (simp; done) | (simp; omega))) | (exact Or.inl (by first | assumption | (simp; done)))))))), by (repeat (first | assumption | (refine At.new' (by (first | omega | (simp; done) | (simp; omega))) _ _) | apply At.alloc | apply At.drewN | apply At.setRow | (apply At.setRow_neF; first | assumption | (apply Ne.symm; assumption) | omega) | (apply At.extF; assumption))), hF2, by (repeat (first | assumption | (refine At.new' (by (first | omega | (simp; done) | (simp; omega))) _ _) | apply At.alloc | apply At.drewN | apply At.setRow | (apply At.setRow_neF; first | assumption | (apply Ne.symm; assumption) | omega) | (apply At.extF; assumption))), by (repeat (first | assumption | (refine At.new' (by (first | omega | (simp; done) | (simp; omega))) _ _) | apply At.alloc | apply At.drewN | apply At.setRow | (apply At.setRow_neF; first | assumption | (apply Ne.symm; assumption) | omega) | (apply At.extF; assumption)))⟩, by simp⟩ ?_
                clear hF2 hnz
                rintro x4 ⟨⟨gg, hN, hF, hb10, hb11⟩, hz⟩
                have hp_x4 : p < x3.heap.size := hpz
                refine gol_nil ?_
                refine go_op rfl ?_
                have hlA := hb10.lt
                have hlB := hb11.lt
                have hnA : x2.heap.size ≠ x3.heap.size := by omega
                have hnn : nb < w4.heap.size := hnl
                have hF4s := hF.size
                have hq1 : nb ≠ x2.heap.size := by omega
                have hq2 : nb ≠ x3.heap.size := by omega
                refine isl_store ?_; refine srl ?_
                refine gol_nil ?_
                refine go_op rfl ?_
                refine isl_store ?_; refine srl ?_
                refine gol_nil ?_
                have hFs : Fr (fun x => w4.heap.size ≤ x) x4 ((x4.setRow x2.heap.size ([.int .i64 Y.key, .int .i64 Y.val, .int .u32 (Y.left : Int), .int .u32 (Y.right : Int), .int .i64 Y.size, .int .i64 Y.sum, .int .i64 Y.mn, .int .i64 Y.mx] : List Value).toArray).setRow x3.heap.size ([.int .i64 Z.key, .int .i64 Z.val, .int .u32 (Z.left : Int), .int .u32 (Z.right : Int), .int .i64 Z.size, .int .i64 Z.sum, .int .i64 Z.mn, .int .i64 Z.mx] : List Value).toArray) := ((Fr.refl _ _).setRow _ (Or.inl (by omega))).setRow _ (Or.inl (by omega))
                have ggl := gg.fr hFs (fun x hx e => by have := g4.lt x hx; omega)
                have hFl : Fr (fun b => b = p) w4 ((x4.setRow x2.heap.size ([.int .i64 Y.key, .int .i64 Y.val, .int .u32 (Y.left : Int), .int .u32 (Y.right : Int), .int .i64 Y.size, .int .i64 Y.sum, .int .i64 Y.mn, .int .i64 Y.mx] : List Value).toArray).setRow x3.heap.size ([.int .i64 Z.key, .int .i64 Z.val, .int .u32 (Z.left : Int), .int .u32 (Z.right : Int), .int .i64 Z.size, .int .i64 Z.sum, .int .i64 Z.mn, .int .i64 Z.mx] : List Value).toArray) := (hF.setRow _ (Or.inr (by omega))).setRow _ (Or.inr (by omega))
                refine go_fin ?_
                exact go_stop (G := Nat × Nat) (x2.heap.size, x3.heap.size) rfl ⟨rfl, rfl, rfl, rfl, trivial⟩ ⟨by (repeat (first | assumption | (refine At.new' (by (first | omega | (simp; done) | (simp; omega))) _ _) | apply At.alloc | apply At.drewN | apply At.setRow | (apply At.setRow_neF; first | assumption | (apply Ne.symm; assumption) | omega) | (apply At.extF; assumption))), by (repeat (first | assumption | (refine At.new' (by (first | omega | (simp; done) | (simp; omega))) _ _) | apply At.alloc | apply At.drewN | apply At.setRow | (apply At.setRow_neF; first | assumption | (apply Ne.symm; assumption) | omega) | (apply At.extF; assumption))), by (repeat (first | assumption | (refine At.new' (by (first | omega | (simp; done) | (simp; omega))) _ _) | apply At.alloc | apply At.drewN | apply At.setRow | (apply At.setRow_neF; first | assumption | (apply Ne.symm; assumption) | omega) | (apply At.extF; assumption))), ggl, hFl⟩ trivial
              refine go_op rfl ?_
              refine isl_alloc ?_; refine all' ?_
              have hF2 : Fr (fun b => b = p) w4 (x2.alloc (.cells ([.int .i64 0, .int .i64 0, .int .u32 0, .int .u32 0, .int .i64 0, .int .i64 0, .int .i64 0, .int .i64 0] : List Value).toArray 50)) := by (repeat (first | exact Fr.refl _ _ | assumption | apply Fr.drewN | apply Fr.alloc | (apply Fr.transF; assumption) | (refine Fr.setRow ?_ _ (by first | exact Or.inr (by (first | omega | (simp; done) | (simp; omega))) | (exact Or.inl (by first | assumption | (simp; done)))))))
              have hqb11 : w4.heap.size ≤ x2.heap.size := hF.size
              have hpz : p < x2.heap.size := by have := hF.size; omega
              have hnz : nb < x2.heap.size := by have := hN.lt; omega
              refine go_name (F := fun y => (CliAt y w.heap.size c p q ((A1.read N.left).read N.right) (Value.slice (some ⟨b, o, none⟩) H.length cv) H ∧ At y nb [.int .i64 N.key, .int .i64 N.val, .int .u32 (N.left : Int), .int .u32 (N.right : Int), .int .i64 N.size, .int .i64 N.sum, .int .i64 N.mn, .int .i64 N.mx] 50 ∧ Fr (fun b => b = p) w4 y ∧ At y x2.heap.size [.int .i64 0, .int .i64 0, .int .u32 0, .int .u32 0, .int .i64 0, .int .i64 0, .int .i64 0, .int .i64 0] 50) ∧ y.heap.size = x2.heap.size + 1) ⟨⟨gg.ext (by (repeat (first | exact Fr.refl _ _ | assumption | apply Fr.drewN | apply Fr.alloc | (apply Fr.transF; assumption) | (refine Fr.setRow ?_ _ (by first | exact Or.inr (by (first | omega | (simp; done) | (simp; omega))) | (exact Or.inl (by first | assumption | (simp; done)))))))), by (repeat (first | assumption | (refine At.new' (by (first | omega | (simp; done) | (simp; omega))) _ _) | apply At.alloc | apply At.drewN | apply At.setRow | (apply At.setRow_neF; first | assumption | (apply Ne.symm; assumption) | omega) | (apply At.extF; assumption))), hF2, by (repeat (first | assumption | (refine At.new' (by (first | omega | (simp; done) | (simp; omega))) _ _) | apply At.alloc | apply At.drewN | apply At.setRow | (apply At.setRow_neF; first | assumption | (apply Ne.symm; assumption) | omega) | (apply At.extF; assumption)))⟩, by simp⟩ ?_
              clear hF2 hnz
              rintro x5 ⟨⟨gg, hN, hF, hb11⟩, hz⟩
              have hp_x5 : p < x2.heap.size := hpz
              refine gol_nil ?_
              refine go_op rfl ?_
              refine isl_alloc ?_; refine all' ?_
              have hF2 : Fr (fun b => b = p) w4 (x5.alloc (.cells ([.int .i64 0, .int .i64 0, .int .u32 0, .int .u32 0, .int .i64 0, .int .i64 0, .int .i64 0, .int .i64 0] : List Value).toArray 50)) := by (repeat (first | exact Fr.refl _ _ | assumption | apply Fr.drewN | apply Fr.alloc | (apply Fr.transF; assumption) | (refine Fr.setRow ?_ _ (by first | exact Or.inr (by (first | omega | (simp; done) | (simp; omega))) | (exact Or.inl (by first | assumption | (simp; done)))))))
              have hqb10 : w4.heap.size ≤ x5.heap.size := hF.size
              have hpz : p < x5.heap.size := by have := hF.size; omega
              have hnz : nb < x5.heap.size := by have := hN.lt; omega
              have hlb11 := hb11.lt
              refine go_name (F := fun y => (CliAt y w.heap.size c p q ((A1.read N.left).read N.right) (Value.slice (some ⟨b, o, none⟩) H.length cv) H ∧ At y nb [.int .i64 N.key, .int .i64 N.val, .int .u32 (N.left : Int), .int .u32 (N.right : Int), .int .i64 N.size, .int .i64 N.sum, .int .i64 N.mn, .int .i64 N.mx] 50 ∧ Fr (fun b => b = p) w4 y ∧ At y x5.heap.size [.int .i64 0, .int .i64 0, .int .u32 0, .int .u32 0, .int .i64 0, .int .i64 0, .int .i64 0, .int .i64 0] 50 ∧ At y x2.heap.size [.int .i64 0, .int .i64 0, .int .u32 0, .int .u32 0, .int .i64 0, .int .i64 0, .int .i64 0, .int .i64 0] 50) ∧ y.heap.size = x5.heap.size + 1) ⟨⟨gg.ext (by (repeat (first | exact Fr.refl _ _ | assumption | apply Fr.drewN | apply Fr.alloc | (apply Fr.transF; assumption) | (refine Fr.setRow ?_ _ (by first | exact Or.inr (by (first | omega | (simp; done) | (simp; omega))) | (exact Or.inl (by first | assumption | (simp; done)))))))), by (repeat (first | assumption | (refine At.new' (by (first | omega | (simp; done) | (simp; omega))) _ _) | apply At.alloc | apply At.drewN | apply At.setRow | (apply At.setRow_neF; first | assumption | (apply Ne.symm; assumption) | omega) | (apply At.extF; assumption))), hF2, by (repeat (first | assumption | (refine At.new' (by (first | omega | (simp; done) | (simp; omega))) _ _) | apply At.alloc | apply At.drewN | apply At.setRow | (apply At.setRow_neF; first | assumption | (apply Ne.symm; assumption) | omega) | (apply At.extF; assumption))), by (repeat (first | assumption | (refine At.new' (by (first | omega | (simp; done) | (simp; omega))) _ _) | apply At.alloc | apply At.drewN | apply At.setRow | (apply At.setRow_neF; first | assumption | (apply Ne.symm; assumption) | omega) | (apply At.extF; assumption)))⟩, by simp⟩ ?_
              clear hF2 hnz
              rintro x6 ⟨⟨gg, hN, hF, hb10, hb11⟩, hz⟩
              have hp_x6 : p < x5.heap.size := hpz
              refine gol_nil ?_
              refine go_op rfl ?_
              have hlA := hb10.lt
              have hlB := hb11.lt
              have hnA : x5.heap.size ≠ x2.heap.size := by omega
              have hnn : nb < w4.heap.size := hnl
              have hF4s := hF.size
              have hq1 : nb ≠ x5.heap.size := by omega
              have hq2 : nb ≠ x2.heap.size := by omega
              refine isl_store ?_; refine srl ?_
              refine gol_nil ?_
              refine go_op rfl ?_
              refine isl_store ?_; refine srl ?_
              refine gol_nil ?_
              have hFs : Fr (fun x => w4.heap.size ≤ x) x6 ((x6.setRow x5.heap.size ([.int .i64 Y.key, .int .i64 Y.val, .int .u32 (Y.left : Int), .int .u32 (Y.right : Int), .int .i64 Y.size, .int .i64 Y.sum, .int .i64 Y.mn, .int .i64 Y.mx] : List Value).toArray).setRow x2.heap.size ([.int .i64 Z.key, .int .i64 Z.val, .int .u32 (Z.left : Int), .int .u32 (Z.right : Int), .int .i64 Z.size, .int .i64 Z.sum, .int .i64 Z.mn, .int .i64 Z.mx] : List Value).toArray) := ((Fr.refl _ _).setRow _ (Or.inl (by omega))).setRow _ (Or.inl (by omega))
              have ggl := gg.fr hFs (fun x hx e => by have := g4.lt x hx; omega)
              have hFl : Fr (fun b => b = p) w4 ((x6.setRow x5.heap.size ([.int .i64 Y.key, .int .i64 Y.val, .int .u32 (Y.left : Int), .int .u32 (Y.right : Int), .int .i64 Y.size, .int .i64 Y.sum, .int .i64 Y.mn, .int .i64 Y.mx] : List Value).toArray).setRow x2.heap.size ([.int .i64 Z.key, .int .i64 Z.val, .int .u32 (Z.left : Int), .int .u32 (Z.right : Int), .int .i64 Z.size, .int .i64 Z.sum, .int .i64 Z.mn, .int .i64 Z.mx] : List Value).toArray) := (hF.setRow _ (Or.inr (by omega))).setRow _ (Or.inr (by omega))
              refine go_fin ?_
              exact go_stop (G := Nat × Nat) (x5.heap.size, x2.heap.size) rfl ⟨rfl, rfl, rfl, rfl, trivial⟩ ⟨by (repeat (first | assumption | (refine At.new' (by (first | omega | (simp; done) | (simp; omega))) _ _) | apply At.alloc | apply At.drewN | apply At.setRow | (apply At.setRow_neF; first | assumption | (apply Ne.symm; assumption) | omega) | (apply At.extF; assumption))), by (repeat (first | assumption | (refine At.new' (by (first | omega | (simp; done) | (simp; omega))) _ _) | apply At.alloc | apply At.drewN | apply At.setRow | (apply At.setRow_neF; first | assumption | (apply Ne.symm; assumption) | omega) | (apply At.extF; assumption))), by (repeat (first | assumption | (refine At.new' (by (first | omega | (simp; done) | (simp; omega))) _ _) | apply At.alloc | apply At.drewN | apply At.setRow | (apply At.setRow_neF; first | assumption | (apply Ne.symm; assumption) | omega) | (apply At.extF; assumption))), ggl, hFl⟩ trivial
            refine go_alt rfl ?_ ?_
            · refine isl_alloc ?_; refine all' ?_
              have hF2 : Fr (fun b => b = p) w4 (x1.alloc (.cells ([.int .i64 0, .int .i64 0, .int .u32 0, .int .u32 0, .int .i64 0, .int .i64 0, .int .i64 0, .int .i64 0] : List Value).toArray 50)) := by (repeat (first | exact Fr.refl _ _ | assumption | apply Fr.drewN | apply Fr.alloc | (apply Fr.transF; assumption) | (refine Fr.setRow ?_ _ (by first | exact Or.inr (by (first | omega | (simp; done) | (simp; omega))) | (exact Or.inl (by first | assumption | (simp; done)))))))
              have hqb10 : w4.heap.size ≤ x1.heap.size := hF.size
              have hpz : p < x1.heap.size := by have := hF.size; omega
              have hnz : nb < x1.heap.size := by have := hN.lt; omega
              refine go_name (F := fun y => (CliAt y w.heap.size c p q (A1.read N.left) (Value.slice (some ⟨b, o, none⟩) H.length cv) H ∧ At y nb [.int .i64 N.key, .int .i64 N.val, .int .u32 (N.left : Int), .int .u32 (N.right : Int), .int .i64 N.size, .int .i64 N.sum, .int .i64 N.mn, .int .i64 N.mx] 50 ∧ Fr (fun b => b = p) w4 y ∧ At y x1.heap.size [.int .i64 0, .int .i64 0, .int .u32 0, .int .u32 0, .int .i64 0, .int .i64 0, .int .i64 0, .int .i64 0] 50) ∧ y.heap.size = x1.heap.size + 1) ⟨⟨gg.ext (by (repeat (first | exact Fr.refl _ _ | assumption | apply Fr.drewN | apply Fr.alloc | (apply Fr.transF; assumption) | (refine Fr.setRow ?_ _ (by first | exact Or.inr (by (first | omega | (simp; done) | (simp; omega))) | (exact Or.inl (by first | assumption | (simp; done)))))))), by (repeat (first | assumption | (refine At.new' (by (first | omega | (simp; done) | (simp; omega))) _ _) | apply At.alloc | apply At.drewN | apply At.setRow | (apply At.setRow_neF; first | assumption | (apply Ne.symm; assumption) | omega) | (apply At.extF; assumption))), hF2, by (repeat (first | assumption | (refine At.new' (by (first | omega | (simp; done) | (simp; omega))) _ _) | apply At.alloc | apply At.drewN | apply At.setRow | (apply At.setRow_neF; first | assumption | (apply Ne.symm; assumption) | omega) | (apply At.extF; assumption)))⟩, by simp⟩ ?_
              clear hF2 hnz
              rintro x7 ⟨⟨gg, hN, hF, hb10⟩, hz⟩
              have hp_x7 : p < x1.heap.size := hpz
              refine gol_nil ?_
              refine go_alt rfl ?_ ?_
              · refine gol_call rfl rfl (c_below _ _ c p q (A1.read N.left) _ H N.right gg (by omega)) ?_
                rintro _ x8 ⟨rfl, gg2, hf⟩
                rw [hZ]; unfold Nd.cells
                have hF2 : Fr (fun b => b = p) w4 x8 := hF.trans hf
                have hN2 := hN.fr hf hnp
                have hb102 := hb10.fr hf (by omega)
                refine ⟨hF2, ?_⟩
                clear gg hF hN hb10
                have gg := gg2
                have hF := hF2
                have hN := hN2
                have hb10 := hb102
                clear gg2 hF2 hN2 hb102
                refine gol_nil ?_
                refine go_op rfl ?_
                refine isl_alloc ?_; refine all' ?_
                have hF2 : Fr (fun b => b = p) w4 (x8.alloc (.cells ([.int .i64 0, .int .i64 0, .int .u32 0, .int .u32 0, .int .i64 0, .int .i64 0, .int .i64 0, .int .i64 0] : List Value).toArray 50)) := by (repeat (first | exact Fr.refl _ _ | assumption | apply Fr.drewN | apply Fr.alloc | (apply Fr.transF; assumption) | (refine Fr.setRow ?_ _ (by first | exact Or.inr (by (first | omega | (simp; done) | (simp; omega))) | (exact Or.inl (by first | assumption | (simp; done)))))))
                have hqb11 : w4.heap.size ≤ x8.heap.size := hF.size
                have hpz : p < x8.heap.size := by have := hF.size; omega
                have hnz : nb < x8.heap.size := by have := hN.lt; omega
                have hlb10 := hb10.lt
                refine go_name (F := fun y => (CliAt y w.heap.size c p q ((A1.read N.left).read N.right) (Value.slice (some ⟨b, o, none⟩) H.length cv) H ∧ At y nb [.int .i64 N.key, .int .i64 N.val, .int .u32 (N.left : Int), .int .u32 (N.right : Int), .int .i64 N.size, .int .i64 N.sum, .int .i64 N.mn, .int .i64 N.mx] 50 ∧ Fr (fun b => b = p) w4 y ∧ At y x1.heap.size [.int .i64 0, .int .i64 0, .int .u32 0, .int .u32 0, .int .i64 0, .int .i64 0, .int .i64 0, .int .i64 0] 50 ∧ At y x8.heap.size [.int .i64 0, .int .i64 0, .int .u32 0, .int .u32 0, .int .i64 0, .int .i64 0, .int .i64 0, .int .i64 0] 50) ∧ y.heap.size = x8.heap.size + 1) ⟨⟨gg.ext (by (repeat (first | exact Fr.refl _ _ | assumption | apply Fr.drewN | apply Fr.alloc | (apply Fr.transF; assumption) | (refine Fr.setRow ?_ _ (by first | exact Or.inr (by (first | omega | (simp; done) | (simp; omega))) | (exact Or.inl (by first | assumption | (simp; done)))))))), by (repeat (first | assumption | (refine At.new' (by (first | omega | (simp; done) | (simp; omega))) _ _) | apply At.alloc | apply At.drewN | apply At.setRow | (apply At.setRow_neF; first | assumption | (apply Ne.symm; assumption) | omega) | (apply At.extF; assumption))), hF2, by (repeat (first | assumption | (refine At.new' (by (first | omega | (simp; done) | (simp; omega))) _ _) | apply At.alloc | apply At.drewN | apply At.setRow | (apply At.setRow_neF; first | assumption | (apply Ne.symm; assumption) | omega) | (apply At.extF; assumption))), by (repeat (first | assumption | (refine At.new' (by (first | omega | (simp; done) | (simp; omega))) _ _) | apply At.alloc | apply At.drewN | apply At.setRow | (apply At.setRow_neF; first | assumption | (apply Ne.symm; assumption) | omega) | (apply At.extF; assumption)))⟩, by simp⟩ ?_
                clear hF2 hnz
                rintro x9 ⟨⟨gg, hN, hF, hb10, hb11⟩, hz⟩
                have hp_x9 : p < x8.heap.size := hpz
                refine gol_nil ?_
                refine go_op rfl ?_
                have hlA := hb10.lt
                have hlB := hb11.lt
                have hnA : x1.heap.size ≠ x8.heap.size := by omega
                have hnn : nb < w4.heap.size := hnl
                have hF4s := hF.size
                have hq1 : nb ≠ x1.heap.size := by omega
                have hq2 : nb ≠ x8.heap.size := by omega
                refine isl_store ?_; refine srl ?_
                refine gol_nil ?_
                refine go_op rfl ?_
                refine isl_store ?_; refine srl ?_
                refine gol_nil ?_
                have hFs : Fr (fun x => w4.heap.size ≤ x) x9 ((x9.setRow x1.heap.size ([.int .i64 Y.key, .int .i64 Y.val, .int .u32 (Y.left : Int), .int .u32 (Y.right : Int), .int .i64 Y.size, .int .i64 Y.sum, .int .i64 Y.mn, .int .i64 Y.mx] : List Value).toArray).setRow x8.heap.size ([.int .i64 Z.key, .int .i64 Z.val, .int .u32 (Z.left : Int), .int .u32 (Z.right : Int), .int .i64 Z.size, .int .i64 Z.sum, .int .i64 Z.mn, .int .i64 Z.mx] : List Value).toArray) := ((Fr.refl _ _).setRow _ (Or.inl (by omega))).setRow _ (Or.inl (by omega))
                have ggl := gg.fr hFs (fun x hx e => by have := g4.lt x hx; omega)
                have hFl : Fr (fun b => b = p) w4 ((x9.setRow x1.heap.size ([.int .i64 Y.key, .int .i64 Y.val, .int .u32 (Y.left : Int), .int .u32 (Y.right : Int), .int .i64 Y.size, .int .i64 Y.sum, .int .i64 Y.mn, .int .i64 Y.mx] : List Value).toArray).setRow x8.heap.size ([.int .i64 Z.key, .int .i64 Z.val, .int .u32 (Z.left : Int), .int .u32 (Z.right : Int), .int .i64 Z.size, .int .i64 Z.sum, .int .i64 Z.mn, .int .i64 Z.mx] : List Value).toArray) := (hF.setRow _ (Or.inr (by omega))).setRow _ (Or.inr (by omega))
                refine go_fin ?_
                exact go_stop (G := Nat × Nat) (x1.heap.size, x8.heap.size) rfl ⟨rfl, rfl, rfl, rfl, trivial⟩ ⟨by (repeat (first | assumption | (refine At.new' (by (first | omega | (simp; done) | (simp; omega))) _ _) | apply At.alloc | apply At.drewN | apply At.setRow | (apply At.setRow_neF; first | assumption | (apply Ne.symm; assumption) | omega) | (apply At.extF; assumption))), by (repeat (first | assumption | (refine At.new' (by (first | omega | (simp; done) | (simp; omega))) _ _) | apply At.alloc | apply At.drewN | apply At.setRow | (apply At.setRow_neF; first | assumption | (apply Ne.symm; assumption) | omega) | (apply At.extF; assumption))), by (repeat (first | assumption | (refine At.new' (by (first | omega | (simp; done) | (simp; omega))) _ _) | apply At.alloc | apply At.drewN | apply At.setRow | (apply At.setRow_neF; first | assumption | (apply Ne.symm; assumption) | omega) | (apply At.extF; assumption))), ggl, hFl⟩ trivial
              refine go_op rfl ?_
              refine isl_alloc ?_; refine all' ?_
              have hF2 : Fr (fun b => b = p) w4 (x7.alloc (.cells ([.int .i64 0, .int .i64 0, .int .u32 0, .int .u32 0, .int .i64 0, .int .i64 0, .int .i64 0, .int .i64 0] : List Value).toArray 50)) := by (repeat (first | exact Fr.refl _ _ | assumption | apply Fr.drewN | apply Fr.alloc | (apply Fr.transF; assumption) | (refine Fr.setRow ?_ _ (by first | exact Or.inr (by (first | omega | (simp; done) | (simp; omega))) | (exact Or.inl (by first | assumption | (simp; done)))))))
              have hqb11 : w4.heap.size ≤ x7.heap.size := hF.size
              have hpz : p < x7.heap.size := by have := hF.size; omega
              have hnz : nb < x7.heap.size := by have := hN.lt; omega
              have hlb10 := hb10.lt
              refine go_name (F := fun y => (CliAt y w.heap.size c p q (A1.read N.left) (Value.slice (some ⟨b, o, none⟩) H.length cv) H ∧ At y nb [.int .i64 N.key, .int .i64 N.val, .int .u32 (N.left : Int), .int .u32 (N.right : Int), .int .i64 N.size, .int .i64 N.sum, .int .i64 N.mn, .int .i64 N.mx] 50 ∧ Fr (fun b => b = p) w4 y ∧ At y x1.heap.size [.int .i64 0, .int .i64 0, .int .u32 0, .int .u32 0, .int .i64 0, .int .i64 0, .int .i64 0, .int .i64 0] 50 ∧ At y x7.heap.size [.int .i64 0, .int .i64 0, .int .u32 0, .int .u32 0, .int .i64 0, .int .i64 0, .int .i64 0, .int .i64 0] 50) ∧ y.heap.size = x7.heap.size + 1) ⟨⟨gg.ext (by (repeat (first | exact Fr.refl _ _ | assumption | apply Fr.drewN | apply Fr.alloc | (apply Fr.transF; assumption) | (refine Fr.setRow ?_ _ (by first | exact Or.inr (by (first | omega | (simp; done) | (simp; omega))) | (exact Or.inl (by first | assumption | (simp; done)))))))), by (repeat (first | assumption | (refine At.new' (by (first | omega | (simp; done) | (simp; omega))) _ _) | apply At.alloc | apply At.drewN | apply At.setRow | (apply At.setRow_neF; first | assumption | (apply Ne.symm; assumption) | omega) | (apply At.extF; assumption))), hF2, by (repeat (first | assumption | (refine At.new' (by (first | omega | (simp; done) | (simp; omega))) _ _) | apply At.alloc | apply At.drewN | apply At.setRow | (apply At.setRow_neF; first | assumption | (apply Ne.symm; assumption) | omega) | (apply At.extF; assumption))), by (repeat (first | assumption | (refine At.new' (by (first | omega | (simp; done) | (simp; omega))) _ _) | apply At.alloc | apply At.drewN | apply At.setRow | (apply At.setRow_neF; first | assumption | (apply Ne.symm; assumption) | omega) | (apply At.extF; assumption)))⟩, by simp⟩ ?_
              clear hF2 hnz
              rintro x10 ⟨⟨gg, hN, hF, hb10, hb11⟩, hz⟩
              have hp_x10 : p < x7.heap.size := hpz
              refine gol_nil ?_
              refine go_op rfl ?_
              refine gol_call rfl rfl (c_below _ _ c p q (A1.read N.left) _ H N.right gg (by omega)) ?_
              rintro _ x11 ⟨rfl, gg2, hf⟩
              rw [hZ]; unfold Nd.cells
              have hF2 : Fr (fun b => b = p) w4 x11 := hF.trans hf
              have hN2 := hN.fr hf hnp
              have hb102 := hb10.fr hf (by omega)
              have hb112 := hb11.fr hf (by omega)
              refine ⟨hF2, ?_⟩
              clear gg hF hN hb10 hb11
              have gg := gg2
              have hF := hF2
              have hN := hN2
              have hb10 := hb102
              have hb11 := hb112
              clear gg2 hF2 hN2 hb102 hb112
              refine gol_nil ?_
              refine go_op rfl ?_
              have hlA := hb10.lt
              have hlB := hb11.lt
              have hnA : x1.heap.size ≠ x7.heap.size := by omega
              have hnn : nb < w4.heap.size := hnl
              have hF4s := hF.size
              have hq1 : nb ≠ x1.heap.size := by omega
              have hq2 : nb ≠ x7.heap.size := by omega
              refine isl_store ?_; refine srl ?_
              refine gol_nil ?_
              refine go_op rfl ?_
              refine isl_store ?_; refine srl ?_
              refine gol_nil ?_
              have hFs : Fr (fun x => w4.heap.size ≤ x) x11 ((x11.setRow x1.heap.size ([.int .i64 Y.key, .int .i64 Y.val, .int .u32 (Y.left : Int), .int .u32 (Y.right : Int), .int .i64 Y.size, .int .i64 Y.sum, .int .i64 Y.mn, .int .i64 Y.mx] : List Value).toArray).setRow x7.heap.size ([.int .i64 Z.key, .int .i64 Z.val, .int .u32 (Z.left : Int), .int .u32 (Z.right : Int), .int .i64 Z.size, .int .i64 Z.sum, .int .i64 Z.mn, .int .i64 Z.mx] : List Value).toArray) := ((Fr.refl _ _).setRow _ (Or.inl (by omega))).setRow _ (Or.inl (by omega))
              have ggl := gg.fr hFs (fun x hx e => by have := g4.lt x hx; omega)
              have hFl : Fr (fun b => b = p) w4 ((x11.setRow x1.heap.size ([.int .i64 Y.key, .int .i64 Y.val, .int .u32 (Y.left : Int), .int .u32 (Y.right : Int), .int .i64 Y.size, .int .i64 Y.sum, .int .i64 Y.mn, .int .i64 Y.mx] : List Value).toArray).setRow x7.heap.size ([.int .i64 Z.key, .int .i64 Z.val, .int .u32 (Z.left : Int), .int .u32 (Z.right : Int), .int .i64 Z.size, .int .i64 Z.sum, .int .i64 Z.mn, .int .i64 Z.mx] : List Value).toArray) := (hF.setRow _ (Or.inr (by omega))).setRow _ (Or.inr (by omega))
              refine go_fin ?_
              exact go_stop (G := Nat × Nat) (x1.heap.size, x7.heap.size) rfl ⟨rfl, rfl, rfl, rfl, trivial⟩ ⟨by (repeat (first | assumption | (refine At.new' (by (first | omega | (simp; done) | (simp; omega))) _ _) | apply At.alloc | apply At.drewN | apply At.setRow | (apply At.setRow_neF; first | assumption | (apply Ne.symm; assumption) | omega) | (apply At.extF; assumption))), by (repeat (first | assumption | (refine At.new' (by (first | omega | (simp; done) | (simp; omega))) _ _) | apply At.alloc | apply At.drewN | apply At.setRow | (apply At.setRow_neF; first | assumption | (apply Ne.symm; assumption) | omega) | (apply At.extF; assumption))), by (repeat (first | assumption | (refine At.new' (by (first | omega | (simp; done) | (simp; omega))) _ _) | apply At.alloc | apply At.drewN | apply At.setRow | (apply At.setRow_neF; first | assumption | (apply Ne.symm; assumption) | omega) | (apply At.extF; assumption))), ggl, hFl⟩ trivial
            refine go_op rfl ?_
            refine isl_alloc ?_; refine all' ?_
            have hF2 : Fr (fun b => b = p) w4 (x1.alloc (.cells ([.int .i64 0, .int .i64 0, .int .u32 0, .int .u32 0, .int .i64 0, .int .i64 0, .int .i64 0, .int .i64 0] : List Value).toArray 50)) := by (repeat (first | exact Fr.refl _ _ | assumption | apply Fr.drewN | apply Fr.alloc | (apply Fr.transF; assumption) | (refine Fr.setRow ?_ _ (by first | exact Or.inr (by (first | omega | (simp; done) | (simp; omega))) | (exact Or.inl (by first | assumption | (simp; done)))))))
            have hqb11 : w4.heap.size ≤ x1.heap.size := hF.size
            have hpz : p < x1.heap.size := by have := hF.size; omega
            have hnz : nb < x1.heap.size := by have := hN.lt; omega
            refine go_name (F := fun y => (CliAt y w.heap.size c p q (A1.read N.left) (Value.slice (some ⟨b, o, none⟩) H.length cv) H ∧ At y nb [.int .i64 N.key, .int .i64 N.val, .int .u32 (N.left : Int), .int .u32 (N.right : Int), .int .i64 N.size, .int .i64 N.sum, .int .i64 N.mn, .int .i64 N.mx] 50 ∧ Fr (fun b => b = p) w4 y ∧ At y x1.heap.size [.int .i64 0, .int .i64 0, .int .u32 0, .int .u32 0, .int .i64 0, .int .i64 0, .int .i64 0, .int .i64 0] 50) ∧ y.heap.size = x1.heap.size + 1) ⟨⟨gg.ext (by (repeat (first | exact Fr.refl _ _ | assumption | apply Fr.drewN | apply Fr.alloc | (apply Fr.transF; assumption) | (refine Fr.setRow ?_ _ (by first | exact Or.inr (by (first | omega | (simp; done) | (simp; omega))) | (exact Or.inl (by first | assumption | (simp; done)))))))), by (repeat (first | assumption | (refine At.new' (by (first | omega | (simp; done) | (simp; omega))) _ _) | apply At.alloc | apply At.drewN | apply At.setRow | (apply At.setRow_neF; first | assumption | (apply Ne.symm; assumption) | omega) | (apply At.extF; assumption))), hF2, by (repeat (first | assumption | (refine At.new' (by (first | omega | (simp; done) | (simp; omega))) _ _) | apply At.alloc | apply At.drewN | apply At.setRow | (apply At.setRow_neF; first | assumption | (apply Ne.symm; assumption) | omega) | (apply At.extF; assumption)))⟩, by simp⟩ ?_
            clear hF2 hnz
            rintro x12 ⟨⟨gg, hN, hF, hb11⟩, hz⟩
            have hp_x12 : p < x1.heap.size := hpz
            refine gol_nil ?_
            refine go_alt rfl ?_ ?_
            · refine gol_call rfl rfl (c_below _ _ c p q (A1.read N.left) _ H N.right gg (by omega)) ?_
              rintro _ x13 ⟨rfl, gg2, hf⟩
              rw [hZ]; unfold Nd.cells
              have hF2 : Fr (fun b => b = p) w4 x13 := hF.trans hf
              have hN2 := hN.fr hf hnp
              have hb112 := hb11.fr hf (by omega)
              refine ⟨hF2, ?_⟩
              clear gg hF hN hb11
              have gg := gg2
              have hF := hF2
              have hN := hN2
              have hb11 := hb112
              clear gg2 hF2 hN2 hb112
              refine gol_nil ?_
              refine go_op rfl ?_
              refine isl_alloc ?_; refine all' ?_
              have hF2 : Fr (fun b => b = p) w4 (x13.alloc (.cells ([.int .i64 0, .int .i64 0, .int .u32 0, .int .u32 0, .int .i64 0, .int .i64 0, .int .i64 0, .int .i64 0] : List Value).toArray 50)) := by (repeat (first | exact Fr.refl _ _ | assumption | apply Fr.drewN | apply Fr.alloc | (apply Fr.transF; assumption) | (refine Fr.setRow ?_ _ (by first | exact Or.inr (by (first | omega | (simp; done) | (simp; omega))) | (exact Or.inl (by first | assumption | (simp; done)))))))
              have hqb10 : w4.heap.size ≤ x13.heap.size := hF.size
              have hpz : p < x13.heap.size := by have := hF.size; omega
              have hnz : nb < x13.heap.size := by have := hN.lt; omega
              have hlb11 := hb11.lt
              refine go_name (F := fun y => (CliAt y w.heap.size c p q ((A1.read N.left).read N.right) (Value.slice (some ⟨b, o, none⟩) H.length cv) H ∧ At y nb [.int .i64 N.key, .int .i64 N.val, .int .u32 (N.left : Int), .int .u32 (N.right : Int), .int .i64 N.size, .int .i64 N.sum, .int .i64 N.mn, .int .i64 N.mx] 50 ∧ Fr (fun b => b = p) w4 y ∧ At y x13.heap.size [.int .i64 0, .int .i64 0, .int .u32 0, .int .u32 0, .int .i64 0, .int .i64 0, .int .i64 0, .int .i64 0] 50 ∧ At y x1.heap.size [.int .i64 0, .int .i64 0, .int .u32 0, .int .u32 0, .int .i64 0, .int .i64 0, .int .i64 0, .int .i64 0] 50) ∧ y.heap.size = x13.heap.size + 1) ⟨⟨gg.ext (by (repeat (first | exact Fr.refl _ _ | assumption | apply Fr.drewN | apply Fr.alloc | (apply Fr.transF; assumption) | (refine Fr.setRow ?_ _ (by first | exact Or.inr (by (first | omega | (simp; done) | (simp; omega))) | (exact Or.inl (by first | assumption | (simp; done)))))))), by (repeat (first | assumption | (refine At.new' (by (first | omega | (simp; done) | (simp; omega))) _ _) | apply At.alloc | apply At.drewN | apply At.setRow | (apply At.setRow_neF; first | assumption | (apply Ne.symm; assumption) | omega) | (apply At.extF; assumption))), hF2, by (repeat (first | assumption | (refine At.new' (by (first | omega | (simp; done) | (simp; omega))) _ _) | apply At.alloc | apply At.drewN | apply At.setRow | (apply At.setRow_neF; first | assumption | (apply Ne.symm; assumption) | omega) | (apply At.extF; assumption))), by (repeat (first | assumption | (refine At.new' (by (first | omega | (simp; done) | (simp; omega))) _ _) | apply At.alloc | apply At.drewN | apply At.setRow | (apply At.setRow_neF; first | assumption | (apply Ne.symm; assumption) | omega) | (apply At.extF; assumption)))⟩, by simp⟩ ?_
              clear hF2 hnz
              rintro x14 ⟨⟨gg, hN, hF, hb10, hb11⟩, hz⟩
              have hp_x14 : p < x13.heap.size := hpz
              refine gol_nil ?_
              refine go_op rfl ?_
              have hlA := hb10.lt
              have hlB := hb11.lt
              have hnA : x13.heap.size ≠ x1.heap.size := by omega
              have hnn : nb < w4.heap.size := hnl
              have hF4s := hF.size
              have hq1 : nb ≠ x13.heap.size := by omega
              have hq2 : nb ≠ x1.heap.size := by omega
              refine isl_store ?_; refine srl ?_
              refine gol_nil ?_
              refine go_op rfl ?_
              refine isl_store ?_; refine srl ?_
              refine gol_nil ?_
              have hFs : Fr (fun x => w4.heap.size ≤ x) x14 ((x14.setRow x13.heap.size ([.int .i64 Y.key, .int .i64 Y.val, .int .u32 (Y.left : Int), .int .u32 (Y.right : Int), .int .i64 Y.size, .int .i64 Y.sum, .int .i64 Y.mn, .int .i64 Y.mx] : List Value).toArray).setRow x1.heap.size ([.int .i64 Z.key, .int .i64 Z.val, .int .u32 (Z.left : Int), .int .u32 (Z.right : Int), .int .i64 Z.size, .int .i64 Z.sum, .int .i64 Z.mn, .int .i64 Z.mx] : List Value).toArray) := ((Fr.refl _ _).setRow _ (Or.inl (by omega))).setRow _ (Or.inl (by omega))
              have ggl := gg.fr hFs (fun x hx e => by have := g4.lt x hx; omega)
              have hFl : Fr (fun b => b = p) w4 ((x14.setRow x13.heap.size ([.int .i64 Y.key, .int .i64 Y.val, .int .u32 (Y.left : Int), .int .u32 (Y.right : Int), .int .i64 Y.size, .int .i64 Y.sum, .int .i64 Y.mn, .int .i64 Y.mx] : List Value).toArray).setRow x1.heap.size ([.int .i64 Z.key, .int .i64 Z.val, .int .u32 (Z.left : Int), .int .u32 (Z.right : Int), .int .i64 Z.size, .int .i64 Z.sum, .int .i64 Z.mn, .int .i64 Z.mx] : List Value).toArray) := (hF.setRow _ (Or.inr (by omega))).setRow _ (Or.inr (by omega))
              refine go_fin ?_
              exact go_stop (G := Nat × Nat) (x13.heap.size, x1.heap.size) rfl ⟨rfl, rfl, rfl, rfl, trivial⟩ ⟨by (repeat (first | assumption | (refine At.new' (by (first | omega | (simp; done) | (simp; omega))) _ _) | apply At.alloc | apply At.drewN | apply At.setRow | (apply At.setRow_neF; first | assumption | (apply Ne.symm; assumption) | omega) | (apply At.extF; assumption))), by (repeat (first | assumption | (refine At.new' (by (first | omega | (simp; done) | (simp; omega))) _ _) | apply At.alloc | apply At.drewN | apply At.setRow | (apply At.setRow_neF; first | assumption | (apply Ne.symm; assumption) | omega) | (apply At.extF; assumption))), by (repeat (first | assumption | (refine At.new' (by (first | omega | (simp; done) | (simp; omega))) _ _) | apply At.alloc | apply At.drewN | apply At.setRow | (apply At.setRow_neF; first | assumption | (apply Ne.symm; assumption) | omega) | (apply At.extF; assumption))), ggl, hFl⟩ trivial
            refine go_op rfl ?_
            refine isl_alloc ?_; refine all' ?_
            have hF2 : Fr (fun b => b = p) w4 (x12.alloc (.cells ([.int .i64 0, .int .i64 0, .int .u32 0, .int .u32 0, .int .i64 0, .int .i64 0, .int .i64 0, .int .i64 0] : List Value).toArray 50)) := by (repeat (first | exact Fr.refl _ _ | assumption | apply Fr.drewN | apply Fr.alloc | (apply Fr.transF; assumption) | (refine Fr.setRow ?_ _ (by first | exact Or.inr (by (first | omega | (simp; done) | (simp; omega))) | (exact Or.inl (by first | assumption | (simp; done)))))))
            have hqb10 : w4.heap.size ≤ x12.heap.size := hF.size
            have hpz : p < x12.heap.size := by have := hF.size; omega
            have hnz : nb < x12.heap.size := by have := hN.lt; omega
            have hlb11 := hb11.lt
            refine go_name (F := fun y => (CliAt y w.heap.size c p q (A1.read N.left) (Value.slice (some ⟨b, o, none⟩) H.length cv) H ∧ At y nb [.int .i64 N.key, .int .i64 N.val, .int .u32 (N.left : Int), .int .u32 (N.right : Int), .int .i64 N.size, .int .i64 N.sum, .int .i64 N.mn, .int .i64 N.mx] 50 ∧ Fr (fun b => b = p) w4 y ∧ At y x12.heap.size [.int .i64 0, .int .i64 0, .int .u32 0, .int .u32 0, .int .i64 0, .int .i64 0, .int .i64 0, .int .i64 0] 50 ∧ At y x1.heap.size [.int .i64 0, .int .i64 0, .int .u32 0, .int .u32 0, .int .i64 0, .int .i64 0, .int .i64 0, .int .i64 0] 50) ∧ y.heap.size = x12.heap.size + 1) ⟨⟨gg.ext (by (repeat (first | exact Fr.refl _ _ | assumption | apply Fr.drewN | apply Fr.alloc | (apply Fr.transF; assumption) | (refine Fr.setRow ?_ _ (by first | exact Or.inr (by (first | omega | (simp; done) | (simp; omega))) | (exact Or.inl (by first | assumption | (simp; done)))))))), by (repeat (first | assumption | (refine At.new' (by (first | omega | (simp; done) | (simp; omega))) _ _) | apply At.alloc | apply At.drewN | apply At.setRow | (apply At.setRow_neF; first | assumption | (apply Ne.symm; assumption) | omega) | (apply At.extF; assumption))), hF2, by (repeat (first | assumption | (refine At.new' (by (first | omega | (simp; done) | (simp; omega))) _ _) | apply At.alloc | apply At.drewN | apply At.setRow | (apply At.setRow_neF; first | assumption | (apply Ne.symm; assumption) | omega) | (apply At.extF; assumption))), by (repeat (first | assumption | (refine At.new' (by (first | omega | (simp; done) | (simp; omega))) _ _) | apply At.alloc | apply At.drewN | apply At.setRow | (apply At.setRow_neF; first | assumption | (apply Ne.symm; assumption) | omega) | (apply At.extF; assumption)))⟩, by simp⟩ ?_
            clear hF2 hnz
            rintro x15 ⟨⟨gg, hN, hF, hb10, hb11⟩, hz⟩
            have hp_x15 : p < x12.heap.size := hpz
            refine gol_nil ?_
            refine go_op rfl ?_
            refine gol_call rfl rfl (c_below _ _ c p q (A1.read N.left) _ H N.right gg (by omega)) ?_
            rintro _ x16 ⟨rfl, gg2, hf⟩
            rw [hZ]; unfold Nd.cells
            have hF2 : Fr (fun b => b = p) w4 x16 := hF.trans hf
            have hN2 := hN.fr hf hnp
            have hb102 := hb10.fr hf (by omega)
            have hb112 := hb11.fr hf (by omega)
            refine ⟨hF2, ?_⟩
            clear gg hF hN hb10 hb11
            have gg := gg2
            have hF := hF2
            have hN := hN2
            have hb10 := hb102
            have hb11 := hb112
            clear gg2 hF2 hN2 hb102 hb112
            refine gol_nil ?_
            refine go_op rfl ?_
            have hlA := hb10.lt
            have hlB := hb11.lt
            have hnA : x12.heap.size ≠ x1.heap.size := by omega
            have hnn : nb < w4.heap.size := hnl
            have hF4s := hF.size
            have hq1 : nb ≠ x12.heap.size := by omega
            have hq2 : nb ≠ x1.heap.size := by omega
            refine isl_store ?_; refine srl ?_
            refine gol_nil ?_
            refine go_op rfl ?_
            refine isl_store ?_; refine srl ?_
            refine gol_nil ?_
            have hFs : Fr (fun x => w4.heap.size ≤ x) x16 ((x16.setRow x12.heap.size ([.int .i64 Y.key, .int .i64 Y.val, .int .u32 (Y.left : Int), .int .u32 (Y.right : Int), .int .i64 Y.size, .int .i64 Y.sum, .int .i64 Y.mn, .int .i64 Y.mx] : List Value).toArray).setRow x1.heap.size ([.int .i64 Z.key, .int .i64 Z.val, .int .u32 (Z.left : Int), .int .u32 (Z.right : Int), .int .i64 Z.size, .int .i64 Z.sum, .int .i64 Z.mn, .int .i64 Z.mx] : List Value).toArray) := ((Fr.refl _ _).setRow _ (Or.inl (by omega))).setRow _ (Or.inl (by omega))
            have ggl := gg.fr hFs (fun x hx e => by have := g4.lt x hx; omega)
            have hFl : Fr (fun b => b = p) w4 ((x16.setRow x12.heap.size ([.int .i64 Y.key, .int .i64 Y.val, .int .u32 (Y.left : Int), .int .u32 (Y.right : Int), .int .i64 Y.size, .int .i64 Y.sum, .int .i64 Y.mn, .int .i64 Y.mx] : List Value).toArray).setRow x1.heap.size ([.int .i64 Z.key, .int .i64 Z.val, .int .u32 (Z.left : Int), .int .u32 (Z.right : Int), .int .i64 Z.size, .int .i64 Z.sum, .int .i64 Z.mn, .int .i64 Z.mx] : List Value).toArray) := (hF.setRow _ (Or.inr (by omega))).setRow _ (Or.inr (by omega))
            refine go_fin ?_
            exact go_stop (G := Nat × Nat) (x12.heap.size, x1.heap.size) rfl ⟨rfl, rfl, rfl, rfl, trivial⟩ ⟨by (repeat (first | assumption | (refine At.new' (by (first | omega | (simp; done) | (simp; omega))) _ _) | apply At.alloc | apply At.drewN | apply At.setRow | (apply At.setRow_neF; first | assumption | (apply Ne.symm; assumption) | omega) | (apply At.extF; assumption))), by (repeat (first | assumption | (refine At.new' (by (first | omega | (simp; done) | (simp; omega))) _ _) | apply At.alloc | apply At.drewN | apply At.setRow | (apply At.setRow_neF; first | assumption | (apply Ne.symm; assumption) | omega) | (apply At.extF; assumption))), by (repeat (first | assumption | (refine At.new' (by (first | omega | (simp; done) | (simp; omega))) _ _) | apply At.alloc | apply At.drewN | apply At.setRow | (apply At.setRow_neF; first | assumption | (apply Ne.symm; assumption) | omega) | (apply At.extF; assumption))), ggl, hFl⟩ trivial
          refine go_alt rfl ?_ ?_
          · refine isl_alloc ?_; refine all' ?_
            have hF2 : Fr (fun b => b = p) w4 (w4s.alloc (.cells ([.int .i64 0, .int .i64 0, .int .u32 0, .int .u32 0, .int .i64 0, .int .i64 0, .int .i64 0, .int .i64 0] : List Value).toArray 50)) := by (repeat (first | exact Fr.refl _ _ | assumption | apply Fr.drewN | apply Fr.alloc | (apply Fr.transF; assumption) | (refine Fr.setRow ?_ _ (by first | exact Or.inr (by (first | omega | (simp; done) | (simp; omega))) | (exact Or.inl (by first | assumption | (simp; done)))))))
            have hqb10 : w4.heap.size ≤ w4s.heap.size := hF.size
            have hpz : p < w4s.heap.size := by have := hF.size; omega
            have hnz : nb < w4s.heap.size := by have := hN.lt; omega
            refine go_name (F := fun y => (CliAt y w.heap.size c p q A1 (Value.slice (some ⟨b, o, none⟩) H.length cv) H ∧ At y nb [.int .i64 N.key, .int .i64 N.val, .int .u32 (N.left : Int), .int .u32 (N.right : Int), .int .i64 N.size, .int .i64 N.sum, .int .i64 N.mn, .int .i64 N.mx] 50 ∧ Fr (fun b => b = p) w4 y ∧ At y w4s.heap.size [.int .i64 0, .int .i64 0, .int .u32 0, .int .u32 0, .int .i64 0, .int .i64 0, .int .i64 0, .int .i64 0] 50) ∧ y.heap.size = w4s.heap.size + 1) ⟨⟨gg.ext (by (repeat (first | exact Fr.refl _ _ | assumption | apply Fr.drewN | apply Fr.alloc | (apply Fr.transF; assumption) | (refine Fr.setRow ?_ _ (by first | exact Or.inr (by (first | omega | (simp; done) | (simp; omega))) | (exact Or.inl (by first | assumption | (simp; done)))))))), by (repeat (first | assumption | (refine At.new' (by (first | omega | (simp; done) | (simp; omega))) _ _) | apply At.alloc | apply At.drewN | apply At.setRow | (apply At.setRow_neF; first | assumption | (apply Ne.symm; assumption) | omega) | (apply At.extF; assumption))), hF2, by (repeat (first | assumption | (refine At.new' (by (first | omega | (simp; done) | (simp; omega))) _ _) | apply At.alloc | apply At.drewN | apply At.setRow | (apply At.setRow_neF; first | assumption | (apply Ne.symm; assumption) | omega) | (apply At.extF; assumption)))⟩, by simp⟩ ?_
            clear hF2 hnz
            rintro x17 ⟨⟨gg, hN, hF, hb10⟩, hz⟩
            have hp_x17 : p < w4s.heap.size := hpz
            refine gol_nil ?_
            refine go_alt rfl ?_ ?_
            · refine gol_call rfl rfl (c_below _ _ c p q A1 _ H N.left gg (by omega)) ?_
              rintro _ x18 ⟨rfl, gg2, hf⟩
              rw [hY]; unfold Nd.cells
              have hF2 : Fr (fun b => b = p) w4 x18 := hF.trans hf
              have hN2 := hN.fr hf hnp
              have hb102 := hb10.fr hf (by omega)
              refine ⟨hF2, ?_⟩
              clear gg hF hN hb10
              have gg := gg2
              have hF := hF2
              have hN := hN2
              have hb10 := hb102
              clear gg2 hF2 hN2 hb102
              refine gol_nil ?_
              refine go_alt rfl ?_ ?_
              · refine gol_call rfl rfl (c_below _ _ c p q (A1.read N.left) _ H N.right gg (by omega)) ?_
                rintro _ x19 ⟨rfl, gg2, hf⟩
                rw [hZ]; unfold Nd.cells
                have hF2 : Fr (fun b => b = p) w4 x19 := hF.trans hf
                have hN2 := hN.fr hf hnp
                have hb102 := hb10.fr hf (by omega)
                refine ⟨hF2, ?_⟩
                clear gg hF hN hb10
                have gg := gg2
                have hF := hF2
                have hN := hN2
                have hb10 := hb102
                clear gg2 hF2 hN2 hb102
                refine gol_nil ?_
                refine go_op rfl ?_
                refine isl_alloc ?_; refine all' ?_
                have hF2 : Fr (fun b => b = p) w4 (x19.alloc (.cells ([.int .i64 0, .int .i64 0, .int .u32 0, .int .u32 0, .int .i64 0, .int .i64 0, .int .i64 0, .int .i64 0] : List Value).toArray 50)) := by (repeat (first | exact Fr.refl _ _ | assumption | apply Fr.drewN | apply Fr.alloc | (apply Fr.transF; assumption) | (refine Fr.setRow ?_ _ (by first | exact Or.inr (by (first | omega | (simp; done) | (simp; omega))) | (exact Or.inl (by first | assumption | (simp; done)))))))
                have hqb11 : w4.heap.size ≤ x19.heap.size := hF.size
                have hpz : p < x19.heap.size := by have := hF.size; omega
                have hnz : nb < x19.heap.size := by have := hN.lt; omega
                have hlb10 := hb10.lt
                refine go_name (F := fun y => (CliAt y w.heap.size c p q ((A1.read N.left).read N.right) (Value.slice (some ⟨b, o, none⟩) H.length cv) H ∧ At y nb [.int .i64 N.key, .int .i64 N.val, .int .u32 (N.left : Int), .int .u32 (N.right : Int), .int .i64 N.size, .int .i64 N.sum, .int .i64 N.mn, .int .i64 N.mx] 50 ∧ Fr (fun b => b = p) w4 y ∧ At y w4s.heap.size [.int .i64 0, .int .i64 0, .int .u32 0, .int .u32 0, .int .i64 0, .int .i64 0, .int .i64 0, .int .i64 0] 50 ∧ At y x19.heap.size [.int .i64 0, .int .i64 0, .int .u32 0, .int .u32 0, .int .i64 0, .int .i64 0, .int .i64 0, .int .i64 0] 50) ∧ y.heap.size = x19.heap.size + 1) ⟨⟨gg.ext (by (repeat (first | exact Fr.refl _ _ | assumption | apply Fr.drewN | apply Fr.alloc | (apply Fr.transF; assumption) | (refine Fr.setRow ?_ _ (by first | exact Or.inr (by (first | omega | (simp; done) | (simp; omega))) | (exact Or.inl (by first | assumption | (simp; done)))))))), by (repeat (first | assumption | (refine At.new' (by (first | omega | (simp; done) | (simp; omega))) _ _) | apply At.alloc | apply At.drewN | apply At.setRow | (apply At.setRow_neF; first | assumption | (apply Ne.symm; assumption) | omega) | (apply At.extF; assumption))), hF2, by (repeat (first | assumption | (refine At.new' (by (first | omega | (simp; done) | (simp; omega))) _ _) | apply At.alloc | apply At.drewN | apply At.setRow | (apply At.setRow_neF; first | assumption | (apply Ne.symm; assumption) | omega) | (apply At.extF; assumption))), by (repeat (first | assumption | (refine At.new' (by (first | omega | (simp; done) | (simp; omega))) _ _) | apply At.alloc | apply At.drewN | apply At.setRow | (apply At.setRow_neF; first | assumption | (apply Ne.symm; assumption) | omega) | (apply At.extF; assumption)))⟩, by simp⟩ ?_
                clear hF2 hnz
                rintro x20 ⟨⟨gg, hN, hF, hb10, hb11⟩, hz⟩
                have hp_x20 : p < x19.heap.size := hpz
                refine gol_nil ?_
                refine go_op rfl ?_
                have hlA := hb10.lt
                have hlB := hb11.lt
                have hnA : w4s.heap.size ≠ x19.heap.size := by omega
                have hnn : nb < w4.heap.size := hnl
                have hF4s := hF.size
                have hq1 : nb ≠ w4s.heap.size := by omega
                have hq2 : nb ≠ x19.heap.size := by omega
                refine isl_store ?_; refine srl ?_
                refine gol_nil ?_
                refine go_op rfl ?_
                refine isl_store ?_; refine srl ?_
                refine gol_nil ?_
                have hFs : Fr (fun x => w4.heap.size ≤ x) x20 ((x20.setRow w4s.heap.size ([.int .i64 Y.key, .int .i64 Y.val, .int .u32 (Y.left : Int), .int .u32 (Y.right : Int), .int .i64 Y.size, .int .i64 Y.sum, .int .i64 Y.mn, .int .i64 Y.mx] : List Value).toArray).setRow x19.heap.size ([.int .i64 Z.key, .int .i64 Z.val, .int .u32 (Z.left : Int), .int .u32 (Z.right : Int), .int .i64 Z.size, .int .i64 Z.sum, .int .i64 Z.mn, .int .i64 Z.mx] : List Value).toArray) := ((Fr.refl _ _).setRow _ (Or.inl (by omega))).setRow _ (Or.inl (by omega))
                have ggl := gg.fr hFs (fun x hx e => by have := g4.lt x hx; omega)
                have hFl : Fr (fun b => b = p) w4 ((x20.setRow w4s.heap.size ([.int .i64 Y.key, .int .i64 Y.val, .int .u32 (Y.left : Int), .int .u32 (Y.right : Int), .int .i64 Y.size, .int .i64 Y.sum, .int .i64 Y.mn, .int .i64 Y.mx] : List Value).toArray).setRow x19.heap.size ([.int .i64 Z.key, .int .i64 Z.val, .int .u32 (Z.left : Int), .int .u32 (Z.right : Int), .int .i64 Z.size, .int .i64 Z.sum, .int .i64 Z.mn, .int .i64 Z.mx] : List Value).toArray) := (hF.setRow _ (Or.inr (by omega))).setRow _ (Or.inr (by omega))
                refine go_fin ?_
                exact go_stop (G := Nat × Nat) (w4s.heap.size, x19.heap.size) rfl ⟨rfl, rfl, rfl, rfl, trivial⟩ ⟨by (repeat (first | assumption | (refine At.new' (by (first | omega | (simp; done) | (simp; omega))) _ _) | apply At.alloc | apply At.drewN | apply At.setRow | (apply At.setRow_neF; first | assumption | (apply Ne.symm; assumption) | omega) | (apply At.extF; assumption))), by (repeat (first | assumption | (refine At.new' (by (first | omega | (simp; done) | (simp; omega))) _ _) | apply At.alloc | apply At.drewN | apply At.setRow | (apply At.setRow_neF; first | assumption | (apply Ne.symm; assumption) | omega) | (apply At.extF; assumption))), by (repeat (first | assumption | (refine At.new' (by (first | omega | (simp; done) | (simp; omega))) _ _) | apply At.alloc | apply At.drewN | apply At.setRow | (apply At.setRow_neF; first | assumption | (apply Ne.symm; assumption) | omega) | (apply At.extF; assumption))), ggl, hFl⟩ trivial
              refine go_op rfl ?_
              refine isl_alloc ?_; refine all' ?_
              have hF2 : Fr (fun b => b = p) w4 (x18.alloc (.cells ([.int .i64 0, .int .i64 0, .int .u32 0, .int .u32 0, .int .i64 0, .int .i64 0, .int .i64 0, .int .i64 0] : List Value).toArray 50)) := by (repeat (first | exact Fr.refl _ _ | assumption | apply Fr.drewN | apply Fr.alloc | (apply Fr.transF; assumption) | (refine Fr.setRow ?_ _ (by first | exact Or.inr (by (first | omega | (simp; done) | (simp; omega))) | (exact Or.inl (by first | assumption | (simp; done)))))))
              have hqb11 : w4.heap.size ≤ x18.heap.size := hF.size
              have hpz : p < x18.heap.size := by have := hF.size; omega
              have hnz : nb < x18.heap.size := by have := hN.lt; omega
              have hlb10 := hb10.lt
              refine go_name (F := fun y => (CliAt y w.heap.size c p q (A1.read N.left) (Value.slice (some ⟨b, o, none⟩) H.length cv) H ∧ At y nb [.int .i64 N.key, .int .i64 N.val, .int .u32 (N.left : Int), .int .u32 (N.right : Int), .int .i64 N.size, .int .i64 N.sum, .int .i64 N.mn, .int .i64 N.mx] 50 ∧ Fr (fun b => b = p) w4 y ∧ At y w4s.heap.size [.int .i64 0, .int .i64 0, .int .u32 0, .int .u32 0, .int .i64 0, .int .i64 0, .int .i64 0, .int .i64 0] 50 ∧ At y x18.heap.size [.int .i64 0, .int .i64 0, .int .u32 0, .int .u32 0, .int .i64 0, .int .i64 0, .int .i64 0, .int .i64 0] 50) ∧ y.heap.size = x18.heap.size + 1) ⟨⟨gg.ext (by (repeat (first | exact Fr.refl _ _ | assumption | apply Fr.drewN | apply Fr.alloc | (apply Fr.transF; assumption) | (refine Fr.setRow ?_ _ (by first | exact Or.inr (by (first | omega | (simp; done) | (simp; omega))) | (exact Or.inl (by first | assumption | (simp; done)))))))), by (repeat (first | assumption | (refine At.new' (by (first | omega | (simp; done) | (simp; omega))) _ _) | apply At.alloc | apply At.drewN | apply At.setRow | (apply At.setRow_neF; first | assumption | (apply Ne.symm; assumption) | omega) | (apply At.extF; assumption))), hF2, by (repeat (first | assumption | (refine At.new' (by (first | omega | (simp; done) | (simp; omega))) _ _) | apply At.alloc | apply At.drewN | apply At.setRow | (apply At.setRow_neF; first | assumption | (apply Ne.symm; assumption) | omega) | (apply At.extF; assumption))), by (repeat (first | assumption | (refine At.new' (by (first | omega | (simp; done) | (simp; omega))) _ _) | apply At.alloc | apply At.drewN | apply At.setRow | (apply At.setRow_neF; first | assumption | (apply Ne.symm; assumption) | omega) | (apply At.extF; assumption)))⟩, by simp⟩ ?_
              clear hF2 hnz
              rintro x21 ⟨⟨gg, hN, hF, hb10, hb11⟩, hz⟩
              have hp_x21 : p < x18.heap.size := hpz
              refine gol_nil ?_
              refine go_op rfl ?_
              refine gol_call rfl rfl (c_below _ _ c p q (A1.read N.left) _ H N.right gg (by omega)) ?_
              rintro _ x22 ⟨rfl, gg2, hf⟩
              rw [hZ]; unfold Nd.cells
              have hF2 : Fr (fun b => b = p) w4 x22 := hF.trans hf
              have hN2 := hN.fr hf hnp
              have hb102 := hb10.fr hf (by omega)
              have hb112 := hb11.fr hf (by omega)
              refine ⟨hF2, ?_⟩
              clear gg hF hN hb10 hb11
              have gg := gg2
              have hF := hF2
              have hN := hN2
              have hb10 := hb102
              have hb11 := hb112
              clear gg2 hF2 hN2 hb102 hb112
              refine gol_nil ?_
              refine go_op rfl ?_
              have hlA := hb10.lt
              have hlB := hb11.lt
              have hnA : w4s.heap.size ≠ x18.heap.size := by omega
              have hnn : nb < w4.heap.size := hnl
              have hF4s := hF.size
              have hq1 : nb ≠ w4s.heap.size := by omega
              have hq2 : nb ≠ x18.heap.size := by omega
              refine isl_store ?_; refine srl ?_
              refine gol_nil ?_
              refine go_op rfl ?_
              refine isl_store ?_; refine srl ?_
              refine gol_nil ?_
              have hFs : Fr (fun x => w4.heap.size ≤ x) x22 ((x22.setRow w4s.heap.size ([.int .i64 Y.key, .int .i64 Y.val, .int .u32 (Y.left : Int), .int .u32 (Y.right : Int), .int .i64 Y.size, .int .i64 Y.sum, .int .i64 Y.mn, .int .i64 Y.mx] : List Value).toArray).setRow x18.heap.size ([.int .i64 Z.key, .int .i64 Z.val, .int .u32 (Z.left : Int), .int .u32 (Z.right : Int), .int .i64 Z.size, .int .i64 Z.sum, .int .i64 Z.mn, .int .i64 Z.mx] : List Value).toArray) := ((Fr.refl _ _).setRow _ (Or.inl (by omega))).setRow _ (Or.inl (by omega))
              have ggl := gg.fr hFs (fun x hx e => by have := g4.lt x hx; omega)
              have hFl : Fr (fun b => b = p) w4 ((x22.setRow w4s.heap.size ([.int .i64 Y.key, .int .i64 Y.val, .int .u32 (Y.left : Int), .int .u32 (Y.right : Int), .int .i64 Y.size, .int .i64 Y.sum, .int .i64 Y.mn, .int .i64 Y.mx] : List Value).toArray).setRow x18.heap.size ([.int .i64 Z.key, .int .i64 Z.val, .int .u32 (Z.left : Int), .int .u32 (Z.right : Int), .int .i64 Z.size, .int .i64 Z.sum, .int .i64 Z.mn, .int .i64 Z.mx] : List Value).toArray) := (hF.setRow _ (Or.inr (by omega))).setRow _ (Or.inr (by omega))
              refine go_fin ?_
              exact go_stop (G := Nat × Nat) (w4s.heap.size, x18.heap.size) rfl ⟨rfl, rfl, rfl, rfl, trivial⟩ ⟨by (repeat (first | assumption | (refine At.new' (by (first | omega | (simp; done) | (simp; omega))) _ _) | apply At.alloc | apply At.drewN | apply At.setRow | (apply At.setRow_neF; first | assumption | (apply Ne.symm; assumption) | omega) | (apply At.extF; assumption))), by (repeat (first | assumption | (refine At.new' (by (first | omega | (simp; done) | (simp; omega))) _ _) | apply At.alloc | apply At.drewN | apply At.setRow | (apply At.setRow_neF; first | assumption | (apply Ne.symm; assumption) | omega) | (apply At.extF; assumption))), by (repeat (first | assumption | (refine At.new' (by (first | omega | (simp; done) | (simp; omega))) _ _) | apply At.alloc | apply At.drewN | apply At.setRow | (apply At.setRow_neF; first | assumption | (apply Ne.symm; assumption) | omega) | (apply At.extF; assumption))), ggl, hFl⟩ trivial
            refine go_op rfl ?_
            refine isl_alloc ?_; refine all' ?_
            have hF2 : Fr (fun b => b = p) w4 (x17.alloc (.cells ([.int .i64 0, .int .i64 0, .int .u32 0, .int .u32 0, .int .i64 0, .int .i64 0, .int .i64 0, .int .i64 0] : List Value).toArray 50)) := by (repeat (first | exact Fr.refl _ _ | assumption | apply Fr.drewN | apply Fr.alloc | (apply Fr.transF; assumption) | (refine Fr.setRow ?_ _ (by first | exact Or.inr (by (first | omega | (simp; done) | (simp; omega))) | (exact Or.inl (by first | assumption | (simp; done)))))))
            have hqb11 : w4.heap.size ≤ x17.heap.size := hF.size
            have hpz : p < x17.heap.size := by have := hF.size; omega
            have hnz : nb < x17.heap.size := by have := hN.lt; omega
            have hlb10 := hb10.lt
            refine go_name (F := fun y => (CliAt y w.heap.size c p q A1 (Value.slice (some ⟨b, o, none⟩) H.length cv) H ∧ At y nb [.int .i64 N.key, .int .i64 N.val, .int .u32 (N.left : Int), .int .u32 (N.right : Int), .int .i64 N.size, .int .i64 N.sum, .int .i64 N.mn, .int .i64 N.mx] 50 ∧ Fr (fun b => b = p) w4 y ∧ At y w4s.heap.size [.int .i64 0, .int .i64 0, .int .u32 0, .int .u32 0, .int .i64 0, .int .i64 0, .int .i64 0, .int .i64 0] 50 ∧ At y x17.heap.size [.int .i64 0, .int .i64 0, .int .u32 0, .int .u32 0, .int .i64 0, .int .i64 0, .int .i64 0, .int .i64 0] 50) ∧ y.heap.size = x17.heap.size + 1) ⟨⟨gg.ext (by (repeat (first | exact Fr.refl _ _ | assumption | apply Fr.drewN | apply Fr.alloc | (apply Fr.transF; assumption) | (refine Fr.setRow ?_ _ (by first | exact Or.inr (by (first | omega | (simp; done) | (simp; omega))) | (exact Or.inl (by first | assumption | (simp; done)))))))), by (repeat (first | assumption | (refine At.new' (by (first | omega | (simp; done) | (simp; omega))) _ _) | apply At.alloc | apply At.drewN | apply At.setRow | (apply At.setRow_neF; first | assumption | (apply Ne.symm; assumption) | omega) | (apply At.extF; assumption))), hF2, by (repeat (first | assumption | (refine At.new' (by (first | omega | (simp; done) | (simp; omega))) _ _) | apply At.alloc | apply At.drewN | apply At.setRow | (apply At.setRow_neF; first | assumption | (apply Ne.symm; assumption) | omega) | (apply At.extF; assumption))), by (repeat (first | assumption | (refine At.new' (by (first | omega | (simp; done) | (simp; omega))) _ _) | apply At.alloc | apply At.drewN | apply At.setRow | (apply At.setRow_neF; first | assumption | (apply Ne.symm; assumption) | omega) | (apply At.extF; assumption)))⟩, by simp⟩ ?_
            clear hF2 hnz
            rintro x23 ⟨⟨gg, hN, hF, hb10, hb11⟩, hz⟩
            have hp_x23 : p < x17.heap.size := hpz
            refine gol_nil ?_
            refine go_op rfl ?_
            refine gol_call rfl rfl (c_below _ _ c p q A1 _ H N.left gg (by omega)) ?_
            rintro _ x24 ⟨rfl, gg2, hf⟩
            rw [hY]; unfold Nd.cells
            have hF2 : Fr (fun b => b = p) w4 x24 := hF.trans hf
            have hN2 := hN.fr hf hnp
            have hb102 := hb10.fr hf (by omega)
            have hb112 := hb11.fr hf (by omega)
            refine ⟨hF2, ?_⟩
            clear gg hF hN hb10 hb11
            have gg := gg2
            have hF := hF2
            have hN := hN2
            have hb10 := hb102
            have hb11 := hb112
            clear gg2 hF2 hN2 hb102 hb112
            refine gol_nil ?_
            refine go_op rfl ?_
            refine gol_call rfl rfl (c_below _ _ c p q (A1.read N.left) _ H N.right gg (by omega)) ?_
            rintro _ x25 ⟨rfl, gg2, hf⟩
            rw [hZ]; unfold Nd.cells
            have hF2 : Fr (fun b => b = p) w4 x25 := hF.trans hf
            have hN2 := hN.fr hf hnp
            have hb102 := hb10.fr hf (by omega)
            have hb112 := hb11.fr hf (by omega)
            refine ⟨hF2, ?_⟩
            clear gg hF hN hb10 hb11
            have gg := gg2
            have hF := hF2
            have hN := hN2
            have hb10 := hb102
            have hb11 := hb112
            clear gg2 hF2 hN2 hb102 hb112
            refine gol_nil ?_
            refine go_op rfl ?_
            have hlA := hb10.lt
            have hlB := hb11.lt
            have hnA : w4s.heap.size ≠ x17.heap.size := by omega
            have hnn : nb < w4.heap.size := hnl
            have hF4s := hF.size
            have hq1 : nb ≠ w4s.heap.size := by omega
            have hq2 : nb ≠ x17.heap.size := by omega
            refine isl_store ?_; refine srl ?_
            refine gol_nil ?_
            refine go_op rfl ?_
            refine isl_store ?_; refine srl ?_
            refine gol_nil ?_
            have hFs : Fr (fun x => w4.heap.size ≤ x) x25 ((x25.setRow w4s.heap.size ([.int .i64 Y.key, .int .i64 Y.val, .int .u32 (Y.left : Int), .int .u32 (Y.right : Int), .int .i64 Y.size, .int .i64 Y.sum, .int .i64 Y.mn, .int .i64 Y.mx] : List Value).toArray).setRow x17.heap.size ([.int .i64 Z.key, .int .i64 Z.val, .int .u32 (Z.left : Int), .int .u32 (Z.right : Int), .int .i64 Z.size, .int .i64 Z.sum, .int .i64 Z.mn, .int .i64 Z.mx] : List Value).toArray) := ((Fr.refl _ _).setRow _ (Or.inl (by omega))).setRow _ (Or.inl (by omega))
            have ggl := gg.fr hFs (fun x hx e => by have := g4.lt x hx; omega)
            have hFl : Fr (fun b => b = p) w4 ((x25.setRow w4s.heap.size ([.int .i64 Y.key, .int .i64 Y.val, .int .u32 (Y.left : Int), .int .u32 (Y.right : Int), .int .i64 Y.size, .int .i64 Y.sum, .int .i64 Y.mn, .int .i64 Y.mx] : List Value).toArray).setRow x17.heap.size ([.int .i64 Z.key, .int .i64 Z.val, .int .u32 (Z.left : Int), .int .u32 (Z.right : Int), .int .i64 Z.size, .int .i64 Z.sum, .int .i64 Z.mn, .int .i64 Z.mx] : List Value).toArray) := (hF.setRow _ (Or.inr (by omega))).setRow _ (Or.inr (by omega))
            refine go_fin ?_
            exact go_stop (G := Nat × Nat) (w4s.heap.size, x17.heap.size) rfl ⟨rfl, rfl, rfl, rfl, trivial⟩ ⟨by (repeat (first | assumption | (refine At.new' (by (first | omega | (simp; done) | (simp; omega))) _ _) | apply At.alloc | apply At.drewN | apply At.setRow | (apply At.setRow_neF; first | assumption | (apply Ne.symm; assumption) | omega) | (apply At.extF; assumption))), by (repeat (first | assumption | (refine At.new' (by (first | omega | (simp; done) | (simp; omega))) _ _) | apply At.alloc | apply At.drewN | apply At.setRow | (apply At.setRow_neF; first | assumption | (apply Ne.symm; assumption) | omega) | (apply At.extF; assumption))), by (repeat (first | assumption | (refine At.new' (by (first | omega | (simp; done) | (simp; omega))) _ _) | apply At.alloc | apply At.drewN | apply At.setRow | (apply At.setRow_neF; first | assumption | (apply Ne.symm; assumption) | omega) | (apply At.extF; assumption))), ggl, hFl⟩ trivial
          refine go_op rfl ?_
          refine isl_alloc ?_; refine all' ?_
          have hF2 : Fr (fun b => b = p) w4 (w4s.alloc (.cells ([.int .i64 0, .int .i64 0, .int .u32 0, .int .u32 0, .int .i64 0, .int .i64 0, .int .i64 0, .int .i64 0] : List Value).toArray 50)) := by (repeat (first | exact Fr.refl _ _ | assumption | apply Fr.drewN | apply Fr.alloc | (apply Fr.transF; assumption) | (refine Fr.setRow ?_ _ (by first | exact Or.inr (by (first | omega | (simp; done) | (simp; omega))) | (exact Or.inl (by first | assumption | (simp; done)))))))
          have hqb11 : w4.heap.size ≤ w4s.heap.size := hF.size
          have hpz : p < w4s.heap.size := by have := hF.size; omega
          have hnz : nb < w4s.heap.size := by have := hN.lt; omega
          refine go_name (F := fun y => (CliAt y w.heap.size c p q A1 (Value.slice (some ⟨b, o, none⟩) H.length cv) H ∧ At y nb [.int .i64 N.key, .int .i64 N.val, .int .u32 (N.left : Int), .int .u32 (N.right : Int), .int .i64 N.size, .int .i64 N.sum, .int .i64 N.mn, .int .i64 N.mx] 50 ∧ Fr (fun b => b = p) w4 y ∧ At y w4s.heap.size [.int .i64 0, .int .i64 0, .int .u32 0, .int .u32 0, .int .i64 0, .int .i64 0, .int .i64 0, .int .i64 0] 50) ∧ y.heap.size = w4s.heap.size + 1) ⟨⟨gg.ext (by (repeat (first | exact Fr.refl _ _ | assumption | apply Fr.drewN | apply Fr.alloc | (apply Fr.transF; assumption) | (refine Fr.setRow ?_ _ (by first | exact Or.inr (by (first | omega | (simp; done) | (simp; omega))) | (exact Or.inl (by first | assumption | (simp; done)))))))), by (repeat (first | assumption | (refine At.new' (by (first | omega | (simp; done) | (simp; omega))) _ _) | apply At.alloc | apply At.drewN | apply At.setRow | (apply At.setRow_neF; first | assumption | (apply Ne.symm; assumption) | omega) | (apply At.extF; assumption))), hF2, by (repeat (first | assumption | (refine At.new' (by (first | omega | (simp; done) | (simp; omega))) _ _) | apply At.alloc | apply At.drewN | apply At.setRow | (apply At.setRow_neF; first | assumption | (apply Ne.symm; assumption) | omega) | (apply At.extF; assumption)))⟩, by simp⟩ ?_
          clear hF2 hnz
          rintro x26 ⟨⟨gg, hN, hF, hb11⟩, hz⟩
          have hp_x26 : p < w4s.heap.size := hpz
          refine gol_nil ?_
          refine go_alt rfl ?_ ?_
          · refine gol_call rfl rfl (c_below _ _ c p q A1 _ H N.left gg (by omega)) ?_
            rintro _ x27 ⟨rfl, gg2, hf⟩
            rw [hY]; unfold Nd.cells
            have hF2 : Fr (fun b => b = p) w4 x27 := hF.trans hf
            have hN2 := hN.fr hf hnp
            have hb112 := hb11.fr hf (by omega)
            refine ⟨hF2, ?_⟩
            clear gg hF hN hb11
            have gg := gg2
            have hF := hF2
            have hN := hN2
            have hb11 := hb112
            clear gg2 hF2 hN2 hb112
            refine gol_nil ?_
            refine go_alt rfl ?_ ?_
            · refine gol_call rfl rfl (c_below _ _ c p q (A1.read N.left) _ H N.right gg (by omega)) ?_
              rintro _ x28 ⟨rfl, gg2, hf⟩
              rw [hZ]; unfold Nd.cells
              have hF2 : Fr (fun b => b = p) w4 x28 := hF.trans hf
              have hN2 := hN.fr hf hnp
              have hb112 := hb11.fr hf (by omega)
              refine ⟨hF2, ?_⟩
              clear gg hF hN hb11
              have gg := gg2
              have hF := hF2
              have hN := hN2
              have hb11 := hb112
              clear gg2 hF2 hN2 hb112
              refine gol_nil ?_
              refine go_op rfl ?_
              refine isl_alloc ?_; refine all' ?_
              have hF2 : Fr (fun b => b = p) w4 (x28.alloc (.cells ([.int .i64 0, .int .i64 0, .int .u32 0, .int .u32 0, .int .i64 0, .int .i64 0, .int .i64 0, .int .i64 0] : List Value).toArray 50)) := by (repeat (first | exact Fr.refl _ _ | assumption | apply Fr.drewN | apply Fr.alloc | (apply Fr.transF; assumption) | (refine Fr.setRow ?_ _ (by first | exact Or.inr (by (first | omega | (simp; done) | (simp; omega))) | (exact Or.inl (by first | assumption | (simp; done)))))))
              have hqb10 : w4.heap.size ≤ x28.heap.size := hF.size
              have hpz : p < x28.heap.size := by have := hF.size; omega
              have hnz : nb < x28.heap.size := by have := hN.lt; omega
              have hlb11 := hb11.lt
              refine go_name (F := fun y => (CliAt y w.heap.size c p q ((A1.read N.left).read N.right) (Value.slice (some ⟨b, o, none⟩) H.length cv) H ∧ At y nb [.int .i64 N.key, .int .i64 N.val, .int .u32 (N.left : Int), .int .u32 (N.right : Int), .int .i64 N.size, .int .i64 N.sum, .int .i64 N.mn, .int .i64 N.mx] 50 ∧ Fr (fun b => b = p) w4 y ∧ At y x28.heap.size [.int .i64 0, .int .i64 0, .int .u32 0, .int .u32 0, .int .i64 0, .int .i64 0, .int .i64 0, .int .i64 0] 50 ∧ At y w4s.heap.size [.int .i64 0, .int .i64 0, .int .u32 0, .int .u32 0, .int .i64 0, .int .i64 0, .int .i64 0, .int .i64 0] 50) ∧ y.heap.size = x28.heap.size + 1) ⟨⟨gg.ext (by (repeat (first | exact Fr.refl _ _ | assumption | apply Fr.drewN | apply Fr.alloc | (apply Fr.transF; assumption) | (refine Fr.setRow ?_ _ (by first | exact Or.inr (by (first | omega | (simp; done) | (simp; omega))) | (exact Or.inl (by first | assumption | (simp; done)))))))), by (repeat (first | assumption | (refine At.new' (by (first | omega | (simp; done) | (simp; omega))) _ _) | apply At.alloc | apply At.drewN | apply At.setRow | (apply At.setRow_neF; first | assumption | (apply Ne.symm; assumption) | omega) | (apply At.extF; assumption))), hF2, by (repeat (first | assumption | (refine At.new' (by (first | omega | (simp; done) | (simp; omega))) _ _) | apply At.alloc | apply At.drewN | apply At.setRow | (apply At.setRow_neF; first | assumption | (apply Ne.symm; assumption) | omega) | (apply At.extF; assumption))), by (repeat (first | assumption | (refine At.new' (by (first | omega | (simp; done) | (simp; omega))) _ _) | apply At.alloc | apply At.drewN | apply At.setRow | (apply At.setRow_neF; first | assumption | (apply Ne.symm; assumption) | omega) | (apply At.extF; assumption)))⟩, by simp⟩ ?_
              clear hF2 hnz
              rintro x29 ⟨⟨gg, hN, hF, hb10, hb11⟩, hz⟩
              have hp_x29 : p < x28.heap.size := hpz
              refine gol_nil ?_
              refine go_op rfl ?_
              have hlA := hb10.lt
              have hlB := hb11.lt
              have hnA : x28.heap.size ≠ w4s.heap.size := by omega
              have hnn : nb < w4.heap.size := hnl
              have hF4s := hF.size
              have hq1 : nb ≠ x28.heap.size := by omega
              have hq2 : nb ≠ w4s.heap.size := by omega
              refine isl_store ?_; refine srl ?_
              refine gol_nil ?_
              refine go_op rfl ?_
              refine isl_store ?_; refine srl ?_
              refine gol_nil ?_
              have hFs : Fr (fun x => w4.heap.size ≤ x) x29 ((x29.setRow x28.heap.size ([.int .i64 Y.key, .int .i64 Y.val, .int .u32 (Y.left : Int), .int .u32 (Y.right : Int), .int .i64 Y.size, .int .i64 Y.sum, .int .i64 Y.mn, .int .i64 Y.mx] : List Value).toArray).setRow w4s.heap.size ([.int .i64 Z.key, .int .i64 Z.val, .int .u32 (Z.left : Int), .int .u32 (Z.right : Int), .int .i64 Z.size, .int .i64 Z.sum, .int .i64 Z.mn, .int .i64 Z.mx] : List Value).toArray) := ((Fr.refl _ _).setRow _ (Or.inl (by omega))).setRow _ (Or.inl (by omega))
              have ggl := gg.fr hFs (fun x hx e => by have := g4.lt x hx; omega)
              have hFl : Fr (fun b => b = p) w4 ((x29.setRow x28.heap.size ([.int .i64 Y.key, .int .i64 Y.val, .int .u32 (Y.left : Int), .int .u32 (Y.right : Int), .int .i64 Y.size, .int .i64 Y.sum, .int .i64 Y.mn, .int .i64 Y.mx] : List Value).toArray).setRow w4s.heap.size ([.int .i64 Z.key, .int .i64 Z.val, .int .u32 (Z.left : Int), .int .u32 (Z.right : Int), .int .i64 Z.size, .int .i64 Z.sum, .int .i64 Z.mn, .int .i64 Z.mx] : List Value).toArray) := (hF.setRow _ (Or.inr (by omega))).setRow _ (Or.inr (by omega))
              refine go_fin ?_
              exact go_stop (G := Nat × Nat) (x28.heap.size, w4s.heap.size) rfl ⟨rfl, rfl, rfl, rfl, trivial⟩ ⟨by (repeat (first | assumption | (refine At.new' (by (first | omega | (simp; done) | (simp; omega))) _ _) | apply At.alloc | apply At.drewN | apply At.setRow | (apply At.setRow_neF; first | assumption | (apply Ne.symm; assumption) | omega) | (apply At.extF; assumption))), by (repeat (first | assumption | (refine At.new' (by (first | omega | (simp; done) | (simp; omega))) _ _) | apply At.alloc | apply At.drewN | apply At.setRow | (apply At.setRow_neF; first | assumption | (apply Ne.symm; assumption) | omega) | (apply At.extF; assumption))), by (repeat (first | assumption | (refine At.new' (by (first | omega | (simp; done) | (simp; omega))) _ _) | apply At.alloc | apply At.drewN | apply At.setRow | (apply At.setRow_neF; first | assumption | (apply Ne.symm; assumption) | omega) | (apply At.extF; assumption))), ggl, hFl⟩ trivial
            refine go_op rfl ?_
            refine isl_alloc ?_; refine all' ?_
            have hF2 : Fr (fun b => b = p) w4 (x27.alloc (.cells ([.int .i64 0, .int .i64 0, .int .u32 0, .int .u32 0, .int .i64 0, .int .i64 0, .int .i64 0, .int .i64 0] : List Value).toArray 50)) := by (repeat (first | exact Fr.refl _ _ | assumption | apply Fr.drewN | apply Fr.alloc | (apply Fr.transF; assumption) | (refine Fr.setRow ?_ _ (by first | exact Or.inr (by (first | omega | (simp; done) | (simp; omega))) | (exact Or.inl (by first | assumption | (simp; done)))))))
            have hqb10 : w4.heap.size ≤ x27.heap.size := hF.size
            have hpz : p < x27.heap.size := by have := hF.size; omega
            have hnz : nb < x27.heap.size := by have := hN.lt; omega
            have hlb11 := hb11.lt
            refine go_name (F := fun y => (CliAt y w.heap.size c p q (A1.read N.left) (Value.slice (some ⟨b, o, none⟩) H.length cv) H ∧ At y nb [.int .i64 N.key, .int .i64 N.val, .int .u32 (N.left : Int), .int .u32 (N.right : Int), .int .i64 N.size, .int .i64 N.sum, .int .i64 N.mn, .int .i64 N.mx] 50 ∧ Fr (fun b => b = p) w4 y ∧ At y x27.heap.size [.int .i64 0, .int .i64 0, .int .u32 0, .int .u32 0, .int .i64 0, .int .i64 0, .int .i64 0, .int .i64 0] 50 ∧ At y w4s.heap.size [.int .i64 0, .int .i64 0, .int .u32 0, .int .u32 0, .int .i64 0, .int .i64 0, .int .i64 0, .int .i64 0] 50) ∧ y.heap.size = x27.heap.size + 1) ⟨⟨gg.ext (by (repeat (first | exact Fr.refl _ _ | assumption | apply Fr.drewN | apply Fr.alloc | (apply Fr.transF; assumption) | (refine Fr.setRow ?_ _ (by first | exact Or.inr (by (first | omega | (simp; done) | (simp; omega))) | (exact Or.inl (by first | assumption | (simp; done)))))))), by (repeat (first | assumption | (refine At.new' (by (first | omega | (simp; done) | (simp; omega))) _ _) | apply At.alloc | apply At.drewN | apply At.setRow | (apply At.setRow_neF; first | assumption | (apply Ne.symm; assumption) | omega) | (apply At.extF; assumption))), hF2, by (repeat (first | assumption | (refine At.new' (by (first | omega | (simp; done) | (simp; omega))) _ _) | apply At.alloc | apply At.drewN | apply At.setRow | (apply At.setRow_neF; first | assumption | (apply Ne.symm; assumption) | omega) | (apply At.extF; assumption))), by (repeat (first | assumption | (refine At.new' (by (first | omega | (simp; done) | (simp; omega))) _ _) | apply At.alloc | apply At.drewN | apply At.setRow | (apply At.setRow_neF; first | assumption | (apply Ne.symm; assumption) | omega) | (apply At.extF; assumption)))⟩, by simp⟩ ?_
            clear hF2 hnz
            rintro x30 ⟨⟨gg, hN, hF, hb10, hb11⟩, hz⟩
            have hp_x30 : p < x27.heap.size := hpz
            refine gol_nil ?_
            refine go_op rfl ?_
            refine gol_call rfl rfl (c_below _ _ c p q (A1.read N.left) _ H N.right gg (by omega)) ?_
            rintro _ x31 ⟨rfl, gg2, hf⟩
            rw [hZ]; unfold Nd.cells
            have hF2 : Fr (fun b => b = p) w4 x31 := hF.trans hf
            have hN2 := hN.fr hf hnp
            have hb102 := hb10.fr hf (by omega)
            have hb112 := hb11.fr hf (by omega)
            refine ⟨hF2, ?_⟩
            clear gg hF hN hb10 hb11
            have gg := gg2
            have hF := hF2
            have hN := hN2
            have hb10 := hb102
            have hb11 := hb112
            clear gg2 hF2 hN2 hb102 hb112
            refine gol_nil ?_
            refine go_op rfl ?_
            have hlA := hb10.lt
            have hlB := hb11.lt
            have hnA : x27.heap.size ≠ w4s.heap.size := by omega
            have hnn : nb < w4.heap.size := hnl
            have hF4s := hF.size
            have hq1 : nb ≠ x27.heap.size := by omega
            have hq2 : nb ≠ w4s.heap.size := by omega
            refine isl_store ?_; refine srl ?_
            refine gol_nil ?_
            refine go_op rfl ?_
            refine isl_store ?_; refine srl ?_
            refine gol_nil ?_
            have hFs : Fr (fun x => w4.heap.size ≤ x) x31 ((x31.setRow x27.heap.size ([.int .i64 Y.key, .int .i64 Y.val, .int .u32 (Y.left : Int), .int .u32 (Y.right : Int), .int .i64 Y.size, .int .i64 Y.sum, .int .i64 Y.mn, .int .i64 Y.mx] : List Value).toArray).setRow w4s.heap.size ([.int .i64 Z.key, .int .i64 Z.val, .int .u32 (Z.left : Int), .int .u32 (Z.right : Int), .int .i64 Z.size, .int .i64 Z.sum, .int .i64 Z.mn, .int .i64 Z.mx] : List Value).toArray) := ((Fr.refl _ _).setRow _ (Or.inl (by omega))).setRow _ (Or.inl (by omega))
            have ggl := gg.fr hFs (fun x hx e => by have := g4.lt x hx; omega)
            have hFl : Fr (fun b => b = p) w4 ((x31.setRow x27.heap.size ([.int .i64 Y.key, .int .i64 Y.val, .int .u32 (Y.left : Int), .int .u32 (Y.right : Int), .int .i64 Y.size, .int .i64 Y.sum, .int .i64 Y.mn, .int .i64 Y.mx] : List Value).toArray).setRow w4s.heap.size ([.int .i64 Z.key, .int .i64 Z.val, .int .u32 (Z.left : Int), .int .u32 (Z.right : Int), .int .i64 Z.size, .int .i64 Z.sum, .int .i64 Z.mn, .int .i64 Z.mx] : List Value).toArray) := (hF.setRow _ (Or.inr (by omega))).setRow _ (Or.inr (by omega))
            refine go_fin ?_
            exact go_stop (G := Nat × Nat) (x27.heap.size, w4s.heap.size) rfl ⟨rfl, rfl, rfl, rfl, trivial⟩ ⟨by (repeat (first | assumption | (refine At.new' (by (first | omega | (simp; done) | (simp; omega))) _ _) | apply At.alloc | apply At.drewN | apply At.setRow | (apply At.setRow_neF; first | assumption | (apply Ne.symm; assumption) | omega) | (apply At.extF; assumption))), by (repeat (first | assumption | (refine At.new' (by (first | omega | (simp; done) | (simp; omega))) _ _) | apply At.alloc | apply At.drewN | apply At.setRow | (apply At.setRow_neF; first | assumption | (apply Ne.symm; assumption) | omega) | (apply At.extF; assumption))), by (repeat (first | assumption | (refine At.new' (by (first | omega | (simp; done) | (simp; omega))) _ _) | apply At.alloc | apply At.drewN | apply At.setRow | (apply At.setRow_neF; first | assumption | (apply Ne.symm; assumption) | omega) | (apply At.extF; assumption))), ggl, hFl⟩ trivial
          refine go_op rfl ?_
          refine isl_alloc ?_; refine all' ?_
          have hF2 : Fr (fun b => b = p) w4 (x26.alloc (.cells ([.int .i64 0, .int .i64 0, .int .u32 0, .int .u32 0, .int .i64 0, .int .i64 0, .int .i64 0, .int .i64 0] : List Value).toArray 50)) := by (repeat (first | exact Fr.refl _ _ | assumption | apply Fr.drewN | apply Fr.alloc | (apply Fr.transF; assumption) | (refine Fr.setRow ?_ _ (by first | exact Or.inr (by (first | omega | (simp; done) | (simp; omega))) | (exact Or.inl (by first | assumption | (simp; done)))))))
          have hqb10 : w4.heap.size ≤ x26.heap.size := hF.size
          have hpz : p < x26.heap.size := by have := hF.size; omega
          have hnz : nb < x26.heap.size := by have := hN.lt; omega
          have hlb11 := hb11.lt
          refine go_name (F := fun y => (CliAt y w.heap.size c p q A1 (Value.slice (some ⟨b, o, none⟩) H.length cv) H ∧ At y nb [.int .i64 N.key, .int .i64 N.val, .int .u32 (N.left : Int), .int .u32 (N.right : Int), .int .i64 N.size, .int .i64 N.sum, .int .i64 N.mn, .int .i64 N.mx] 50 ∧ Fr (fun b => b = p) w4 y ∧ At y x26.heap.size [.int .i64 0, .int .i64 0, .int .u32 0, .int .u32 0, .int .i64 0, .int .i64 0, .int .i64 0, .int .i64 0] 50 ∧ At y w4s.heap.size [.int .i64 0, .int .i64 0, .int .u32 0, .int .u32 0, .int .i64 0, .int .i64 0, .int .i64 0, .int .i64 0] 50) ∧ y.heap.size = x26.heap.size + 1) ⟨⟨gg.ext (by (repeat (first | exact Fr.refl _ _ | assumption | apply Fr.drewN | apply Fr.alloc | (apply Fr.transF; assumption) | (refine Fr.setRow ?_ _ (by first | exact Or.inr (by (first | omega | (simp; done) | (simp; omega))) | (exact Or.inl (by first | assumption | (simp; done)))))))), by (repeat (first | assumption | (refine At.new' (by (first | omega | (simp; done) | (simp; omega))) _ _) | apply At.alloc | apply At.drewN | apply At.setRow | (apply At.setRow_neF; first | assumption | (apply Ne.symm; assumption) | omega) | (apply At.extF; assumption))), hF2, by (repeat (first | assumption | (refine At.new' (by (first | omega | (simp; done) | (simp; omega))) _ _) | apply At.alloc | apply At.drewN | apply At.setRow | (apply At.setRow_neF; first | assumption | (apply Ne.symm; assumption) | omega) | (apply At.extF; assumption))), by (repeat (first | assumption | (refine At.new' (by (first | omega | (simp; done) | (simp; omega))) _ _) | apply At.alloc | apply At.drewN | apply At.setRow | (apply At.setRow_neF; first | assumption | (apply Ne.symm; assumption) | omega) | (apply At.extF; assumption)))⟩, by simp⟩ ?_
          clear hF2 hnz
          rintro x32 ⟨⟨gg, hN, hF, hb10, hb11⟩, hz⟩
          have hp_x32 : p < x26.heap.size := hpz
          refine gol_nil ?_
          refine go_op rfl ?_
          refine gol_call rfl rfl (c_below _ _ c p q A1 _ H N.left gg (by omega)) ?_
          rintro _ x33 ⟨rfl, gg2, hf⟩
          rw [hY]; unfold Nd.cells
          have hF2 : Fr (fun b => b = p) w4 x33 := hF.trans hf
          have hN2 := hN.fr hf hnp
          have hb102 := hb10.fr hf (by omega)
          have hb112 := hb11.fr hf (by omega)
          refine ⟨hF2, ?_⟩
          clear gg hF hN hb10 hb11
          have gg := gg2
          have hF := hF2
          have hN := hN2
          have hb10 := hb102
          have hb11 := hb112
          clear gg2 hF2 hN2 hb102 hb112
          refine gol_nil ?_
          refine go_op rfl ?_
          refine gol_call rfl rfl (c_below _ _ c p q (A1.read N.left) _ H N.right gg (by omega)) ?_
          rintro _ x34 ⟨rfl, gg2, hf⟩
          rw [hZ]; unfold Nd.cells
          have hF2 : Fr (fun b => b = p) w4 x34 := hF.trans hf
          have hN2 := hN.fr hf hnp
          have hb102 := hb10.fr hf (by omega)
          have hb112 := hb11.fr hf (by omega)
          refine ⟨hF2, ?_⟩
          clear gg hF hN hb10 hb11
          have gg := gg2
          have hF := hF2
          have hN := hN2
          have hb10 := hb102
          have hb11 := hb112
          clear gg2 hF2 hN2 hb102 hb112
          refine gol_nil ?_
          refine go_op rfl ?_
          have hlA := hb10.lt
          have hlB := hb11.lt
          have hnA : x26.heap.size ≠ w4s.heap.size := by omega
          have hnn : nb < w4.heap.size := hnl
          have hF4s := hF.size
          have hq1 : nb ≠ x26.heap.size := by omega
          have hq2 : nb ≠ w4s.heap.size := by omega
          refine isl_store ?_; refine srl ?_
          refine gol_nil ?_
          refine go_op rfl ?_
          refine isl_store ?_; refine srl ?_
          refine gol_nil ?_
          have hFs : Fr (fun x => w4.heap.size ≤ x) x34 ((x34.setRow x26.heap.size ([.int .i64 Y.key, .int .i64 Y.val, .int .u32 (Y.left : Int), .int .u32 (Y.right : Int), .int .i64 Y.size, .int .i64 Y.sum, .int .i64 Y.mn, .int .i64 Y.mx] : List Value).toArray).setRow w4s.heap.size ([.int .i64 Z.key, .int .i64 Z.val, .int .u32 (Z.left : Int), .int .u32 (Z.right : Int), .int .i64 Z.size, .int .i64 Z.sum, .int .i64 Z.mn, .int .i64 Z.mx] : List Value).toArray) := ((Fr.refl _ _).setRow _ (Or.inl (by omega))).setRow _ (Or.inl (by omega))
          have ggl := gg.fr hFs (fun x hx e => by have := g4.lt x hx; omega)
          have hFl : Fr (fun b => b = p) w4 ((x34.setRow x26.heap.size ([.int .i64 Y.key, .int .i64 Y.val, .int .u32 (Y.left : Int), .int .u32 (Y.right : Int), .int .i64 Y.size, .int .i64 Y.sum, .int .i64 Y.mn, .int .i64 Y.mx] : List Value).toArray).setRow w4s.heap.size ([.int .i64 Z.key, .int .i64 Z.val, .int .u32 (Z.left : Int), .int .u32 (Z.right : Int), .int .i64 Z.size, .int .i64 Z.sum, .int .i64 Z.mn, .int .i64 Z.mx] : List Value).toArray) := (hF.setRow _ (Or.inr (by omega))).setRow _ (Or.inr (by omega))
          refine go_fin ?_
          exact go_stop (G := Nat × Nat) (x26.heap.size, w4s.heap.size) rfl ⟨rfl, rfl, rfl, rfl, trivial⟩ ⟨by (repeat (first | assumption | (refine At.new' (by (first | omega | (simp; done) | (simp; omega))) _ _) | apply At.alloc | apply At.drewN | apply At.setRow | (apply At.setRow_neF; first | assumption | (apply Ne.symm; assumption) | omega) | (apply At.extF; assumption))), by (repeat (first | assumption | (refine At.new' (by (first | omega | (simp; done) | (simp; omega))) _ _) | apply At.alloc | apply At.drewN | apply At.setRow | (apply At.setRow_neF; first | assumption | (apply Ne.symm; assumption) | omega) | (apply At.extF; assumption))), by (repeat (first | assumption | (refine At.new' (by (first | omega | (simp; done) | (simp; omega))) _ _) | apply At.alloc | apply At.drewN | apply At.setRow | (apply At.setRow_neF; first | assumption | (apply Ne.symm; assumption) | omega) | (apply At.extF; assumption))), ggl, hFl⟩ trivial
        · rintro ⟨x, y⟩ w5 ⟨hN5, hY5, hZ5, g5, hf5⟩
          have hc5 := g5.hc
          have hcell5 : w5.cell? ⟨b, o + k, none⟩ = some (.int .u32 (i : Int)) := hf5.cell hcell4 hbp
          obtain ⟨esz, esm, emn, emx⟩ : N.size = w64 (w64 (1 + Y.size) + Z.size) ∧ N.sum = w64 (w64 (N.val + Y.sum) + Z.sum) ∧ N.mn = (if N.right = 0 then (if N.left = 0 then N.val else min N.val Y.mn) else min (if N.left = 0 then N.val else min N.val Y.mn) Z.mn) ∧ N.mx = (if N.right = 0 then (if N.left = 0 then N.val else max N.val Y.mx) else max (if N.left = 0 then N.val else max N.val Y.mx) Z.mx) := hagg
          unfold w64 at esz esm
          have husz : ((A1.read N.left).read N.right).sizeOf i = N.size := by
            rw [(read_eqs (A1.read N.left) N.right).2.2.2.2.2, (read_eqs A1 N.left).2.2.2.2.2, ← hA1, (read_eqs A i).2.2.2.2.2]
            unfold AR.sizeOf
            rw [if_pos hu, hNN]
          have hw5 := hf5.size
          have hnpp : ¬ nb = p := hnp
          have hcpp : ¬ c = p := hcp'
          by_cases z1 : N.left = 0
          · by_cases z2 : N.right = 0
            · simp only [z1, z2, if_true] at emn emx
              repeat (first | refine sp ?_ | (refine is_load ?_; refine ld ?_) | (refine is_store ?_; refine sr ?_) | (refine is_alloc ?_; refine al ?_) | (refine is_box ?_; refine bx ?_) | (refine isl_load ?_; refine ldl ?_) | (refine isl_store ?_; refine srl ?_) | (refine isl_alloc ?_; refine all' ?_) | (refine isl_box ?_; refine bxl ?_))
              refine dr Try.follows ?_
              repeat (first | refine sp ?_ | (refine is_load ?_; refine ld ?_) | (refine is_store ?_; refine sr ?_) | (refine is_alloc ?_; refine al ?_) | (refine is_box ?_; refine bx ?_) | (refine isl_load ?_; refine ldl ?_) | (refine isl_store ?_; refine srl ?_) | (refine isl_alloc ?_; refine all' ?_) | (refine isl_box ?_; refine bxl ?_))
              refine dr Try.follows ?_
              repeat (first | refine sp ?_ | (refine is_load ?_; refine ld ?_) | (refine is_store ?_; refine sr ?_) | (refine is_alloc ?_; refine al ?_) | (refine is_box ?_; refine bx ?_) | (refine isl_load ?_; refine ldl ?_) | (refine isl_store ?_; refine srl ?_) | (refine isl_alloc ?_; refine all' ?_) | (refine isl_box ?_; refine bxl ?_))
              refine go_name (F := fun w6 => At w6 nb [.int .i64 N.key, .int .i64 N.val, .int .u32 (N.left : Int), .int .u32 (N.right : Int), .int .i64 N.size, .int .i64 N.sum, .int .i64 N.mn, .int .i64 N.mx] 50 ∧ CliAt w6 w.heap.size c p q ((A1.read N.left).read N.right) (Value.slice (some ⟨b, o, none⟩) H.length cv) H ∧ Ext w5 w6) ⟨hN5.ext (by (repeat (first | exact Fr.refl _ _ | assumption | apply Fr.drewN | apply Fr.alloc | (apply Fr.transF; assumption) | (refine Fr.setRow ?_ _ (by first | exact Or.inr (by (first | omega | (simp; done) | (simp; omega))) | (exact Or.inl (by first | assumption | (simp; done)))))))), g5.ext (by (repeat (first | exact Fr.refl _ _ | assumption | apply Fr.drewN | apply Fr.alloc | (apply Fr.transF; assumption) | (refine Fr.setRow ?_ _ (by first | exact Or.inr (by (first | omega | (simp; done) | (simp; omega))) | (exact Or.inl (by first | assumption | (simp; done)))))))), by (repeat (first | exact Fr.refl _ _ | assumption | apply Fr.drewN | apply Fr.alloc | (apply Fr.transF; assumption) | (refine Fr.setRow ?_ _ (by first | exact Or.inr (by (first | omega | (simp; done) | (simp; omega))) | (exact Or.inl (by first | assumption | (simp; done)))))))⟩ ?_
              rintro w6 ⟨hN6, g6, hx6⟩
              have hc6 := g6.hc
              have hcell6 : w6.cell? ⟨b, o + k, none⟩ = some (.int .u32 (i : Int)) := Fr.cell (S := fun _ => False) hx6 hcell5 id
              refine go_drawE (Fr (fun b => b = p) w6) 0 Try.follows (by kernel_rfl) (by kernel_rfl) (by kernel_rfl) ((Fr.refl _ _).drewN 1) ?_
              repeat (first | refine sp ?_ | (refine is_load ?_; refine ld ?_) | (refine is_store ?_; refine sr ?_) | (refine is_alloc ?_; refine al ?_) | (refine is_box ?_; refine bx ?_) | (refine isl_load ?_; refine ldl ?_) | (refine isl_store ?_; refine srl ?_) | (refine isl_alloc ?_; refine all' ?_) | (refine isl_box ?_; refine bxl ?_))
              refine gol_call rfl rfl (p_Size _ _ p q _ i (g6.ar.ext ((Fr.refl _ _).drewN 1)) (by omega)) ?_
              rintro _ w7 ⟨rfl, ha7, hf7⟩
              rw [husz]
              have hf7' : Fr (fun b => b = p) w6 w7 := Fr.trans ((Fr.refl _ _).drewN 1) hf7
              refine ⟨hf7', ?_⟩
              have g7 := (g6.read ha7 hf7').1
              repeat (first | refine sp ?_ | (refine is_load ?_; refine ld ?_) | (refine is_store ?_; refine sr ?_) | (refine is_alloc ?_; refine al ?_) | (refine is_box ?_; refine bx ?_) | (refine isl_load ?_; refine ldl ?_) | (refine isl_store ?_; refine srl ?_) | (refine isl_alloc ?_; refine all' ?_) | (refine isl_box ?_; refine bxl ?_))
              exact go_stop (G := Nat × AR) (k + 1, _) rfl ⟨rfl, trivial⟩ ⟨hlt, hlt2, g7, hx2.trans' (hf4.trans (hf5.trans ((hx6.mono fun _ e => e.elim).trans hf7'))) fun b hb e => by have := g.lof p g.ar.fpp; omega⟩ (by show H.length - (k + 1) < H.length - k; omega)
            · simp only [z1, z2, if_true, if_false] at emn emx
              repeat (first | refine sp ?_ | (refine is_load ?_; refine ld ?_) | (refine is_store ?_; refine sr ?_) | (refine is_alloc ?_; refine al ?_) | (refine is_box ?_; refine bx ?_) | (refine isl_load ?_; refine ldl ?_) | (refine isl_store ?_; refine srl ?_) | (refine isl_alloc ?_; refine all' ?_) | (refine isl_box ?_; refine bxl ?_))
              refine dr Try.follows ?_
              repeat (first | refine sp ?_ | (refine is_load ?_; refine ld ?_) | (refine is_store ?_; refine sr ?_) | (refine is_alloc ?_; refine al ?_) | (refine is_box ?_; refine bx ?_) | (refine isl_load ?_; refine ldl ?_) | (refine isl_store ?_; refine srl ?_) | (refine isl_alloc ?_; refine all' ?_) | (refine isl_box ?_; refine bxl ?_))
              refine dr Try.follows ?_
              repeat (first | refine sp ?_ | (refine is_load ?_; refine ld ?_) | (refine is_store ?_; refine sr ?_) | (refine is_alloc ?_; refine al ?_) | (refine is_box ?_; refine bx ?_) | (refine isl_load ?_; refine ldl ?_) | (refine isl_store ?_; refine srl ?_) | (refine isl_alloc ?_; refine all' ?_) | (refine isl_box ?_; refine bxl ?_))
              refine dr Try.follows ?_
              repeat (first | refine sp ?_ | (refine is_load ?_; refine ld ?_) | (refine is_store ?_; refine sr ?_) | (refine is_alloc ?_; refine al ?_) | (refine is_box ?_; refine bx ?_) | (refine isl_load ?_; refine ldl ?_) | (refine isl_store ?_; refine srl ?_) | (refine isl_alloc ?_; refine all' ?_) | (refine isl_box ?_; refine bxl ?_))
              refine go_name (F := fun w6 => At w6 nb [.int .i64 N.key, .int .i64 N.val, .int .u32 (N.left : Int), .int .u32 (N.right : Int), .int .i64 N.size, .int .i64 N.sum, .int .i64 N.mn, .int .i64 N.mx] 50 ∧ CliAt w6 w.heap.size c p q ((A1.read N.left).read N.right) (Value.slice (some ⟨b, o, none⟩) H.length cv) H ∧ Ext w5 w6) ⟨hN5.ext (by (repeat (first | exact Fr.refl _ _ | assumption | apply Fr.drewN | apply Fr.alloc | (apply Fr.transF; assumption) | (refine Fr.setRow ?_ _ (by first | exact Or.inr (by (first | omega | (simp; done) | (simp; omega))) | (exact Or.inl (by first | assumption | (simp; done)))))))), g5.ext (by (repeat (first | exact Fr.refl _ _ | assumption | apply Fr.drewN | apply Fr.alloc | (apply Fr.transF; assumption) | (refine Fr.setRow ?_ _ (by first | exact Or.inr (by (first | omega | (simp; done) | (simp; omega))) | (exact Or.inl (by first | assumption | (simp; done)))))))), by (repeat (first | exact Fr.refl _ _ | assumption | apply Fr.drewN | apply Fr.alloc | (apply Fr.transF; assumption) | (refine Fr.setRow ?_ _ (by first | exact Or.inr (by (first | omega | (simp; done) | (simp; omega))) | (exact Or.inl (by first | assumption | (simp; done)))))))⟩ ?_
              rintro w6 ⟨hN6, g6, hx6⟩
              have hc6 := g6.hc
              have hcell6 : w6.cell? ⟨b, o + k, none⟩ = some (.int .u32 (i : Int)) := Fr.cell (S := fun _ => False) hx6 hcell5 id
              refine go_drawE (Fr (fun b => b = p) w6) 0 Try.follows (by kernel_rfl) (by kernel_rfl) (by kernel_rfl) ((Fr.refl _ _).drewN 1) ?_
              repeat (first | refine sp ?_ | (refine is_load ?_; refine ld ?_) | (refine is_store ?_; refine sr ?_) | (refine is_alloc ?_; refine al ?_) | (refine is_box ?_; refine bx ?_) | (refine isl_load ?_; refine ldl ?_) | (refine isl_store ?_; refine srl ?_) | (refine isl_alloc ?_; refine all' ?_) | (refine isl_box ?_; refine bxl ?_))
              refine gol_call rfl rfl (p_Size _ _ p q _ i (g6.ar.ext ((Fr.refl _ _).drewN 1)) (by omega)) ?_
              rintro _ w7 ⟨rfl, ha7, hf7⟩
              rw [husz]
              have hf7' : Fr (fun b => b = p) w6 w7 := Fr.trans ((Fr.refl _ _).drewN 1) hf7
              refine ⟨hf7', ?_⟩
              have g7 := (g6.read ha7 hf7').1
              repeat (first | refine sp ?_ | (refine is_load ?_; refine ld ?_) | (refine is_store ?_; refine sr ?_) | (refine is_alloc ?_; refine al ?_) | (refine is_box ?_; refine bx ?_) | (refine isl_load ?_; refine ldl ?_) | (refine isl_store ?_; refine srl ?_) | (refine isl_alloc ?_; refine all' ?_) | (refine isl_box ?_; refine bxl ?_))
              exact go_stop (G := Nat × AR) (k + 1, _) rfl ⟨rfl, trivial⟩ ⟨hlt, hlt2, g7, hx2.trans' (hf4.trans (hf5.trans ((hx6.mono fun _ e => e.elim).trans hf7'))) fun b hb e => by have := g.lof p g.ar.fpp; omega⟩ (by show H.length - (k + 1) < H.length - k; omega)
          · by_cases z2 : N.right = 0
            · simp only [z1, z2, if_true, if_false] at emn emx
              repeat (first | refine sp ?_ | (refine is_load ?_; refine ld ?_) | (refine is_store ?_; refine sr ?_) | (refine is_alloc ?_; refine al ?_) | (refine is_box ?_; refine bx ?_) | (refine isl_load ?_; refine ldl ?_) | (refine isl_store ?_; refine srl ?_) | (refine isl_alloc ?_; refine all' ?_) | (refine isl_box ?_; refine bxl ?_))
              refine dr Try.follows ?_
              repeat (first | refine sp ?_ | (refine is_load ?_; refine ld ?_) | (refine is_store ?_; refine sr ?_) | (refine is_alloc ?_; refine al ?_) | (refine is_box ?_; refine bx ?_) | (refine isl_load ?_; refine ldl ?_) | (refine isl_store ?_; refine srl ?_) | (refine isl_alloc ?_; refine all' ?_) | (refine isl_box ?_; refine bxl ?_))
              refine dr Try.follows ?_
              repeat (first | refine sp ?_ | (refine is_load ?_; refine ld ?_) | (refine is_store ?_; refine sr ?_) | (refine is_alloc ?_; refine al ?_) | (refine is_box ?_; refine bx ?_) | (refine isl_load ?_; refine ldl ?_) | (refine isl_store ?_; refine srl ?_) | (refine isl_alloc ?_; refine all' ?_) | (refine isl_box ?_; refine bxl ?_))
              refine dr Try.follows ?_
              repeat (first | refine sp ?_ | (refine is_load ?_; refine ld ?_) | (refine is_store ?_; refine sr ?_) | (refine is_alloc ?_; refine al ?_) | (refine is_box ?_; refine bx ?_) | (refine isl_load ?_; refine ldl ?_) | (refine isl_store ?_; refine srl ?_) | (refine isl_alloc ?_; refine all' ?_) | (refine isl_box ?_; refine bxl ?_))
              refine go_name (F := fun w6 => At w6 nb [.int .i64 N.key, .int .i64 N.val, .int .u32 (N.left : Int), .int .u32 (N.right : Int), .int .i64 N.size, .int .i64 N.sum, .int .i64 N.mn, .int .i64 N.mx] 50 ∧ CliAt w6 w.heap.size c p q ((A1.read N.left).read N.right) (Value.slice (some ⟨b, o, none⟩) H.length cv) H ∧ Ext w5 w6) ⟨hN5.ext (by (repeat (first | exact Fr.refl _ _ | assumption | apply Fr.drewN | apply Fr.alloc | (apply Fr.transF; assumption) | (refine Fr.setRow ?_ _ (by first | exact Or.inr (by (first | omega | (simp; done) | (simp; omega))) | (exact Or.inl (by first | assumption | (simp; done)))))))), g5.ext (by (repeat (first | exact Fr.refl _ _ | assumption | apply Fr.drewN | apply Fr.alloc | (apply Fr.transF; assumption) | (refine Fr.setRow ?_ _ (by first | exact Or.inr (by (first | omega | (simp; done) | (simp; omega))) | (exact Or.inl (by first | assumption | (simp; done)))))))), by (repeat (first | exact Fr.refl _ _ | assumption | apply Fr.drewN | apply Fr.alloc | (apply Fr.transF; assumption) | (refine Fr.setRow ?_ _ (by first | exact Or.inr (by (first | omega | (simp; done) | (simp; omega))) | (exact Or.inl (by first | assumption | (simp; done)))))))⟩ ?_
              rintro w6 ⟨hN6, g6, hx6⟩
              have hc6 := g6.hc
              have hcell6 : w6.cell? ⟨b, o + k, none⟩ = some (.int .u32 (i : Int)) := Fr.cell (S := fun _ => False) hx6 hcell5 id
              refine go_drawE (Fr (fun b => b = p) w6) 0 Try.follows (by kernel_rfl) (by kernel_rfl) (by kernel_rfl) ((Fr.refl _ _).drewN 1) ?_
              repeat (first | refine sp ?_ | (refine is_load ?_; refine ld ?_) | (refine is_store ?_; refine sr ?_) | (refine is_alloc ?_; refine al ?_) | (refine is_box ?_; refine bx ?_) | (refine isl_load ?_; refine ldl ?_) | (refine isl_store ?_; refine srl ?_) | (refine isl_alloc ?_; refine all' ?_) | (refine isl_box ?_; refine bxl ?_))
              refine gol_call rfl rfl (p_Size _ _ p q _ i (g6.ar.ext ((Fr.refl _ _).drewN 1)) (by omega)) ?_
              rintro _ w7 ⟨rfl, ha7, hf7⟩
              rw [husz]
              have hf7' : Fr (fun b => b = p) w6 w7 := Fr.trans ((Fr.refl _ _).drewN 1) hf7
              refine ⟨hf7', ?_⟩
              have g7 := (g6.read ha7 hf7').1
              repeat (first | refine sp ?_ | (refine is_load ?_; refine ld ?_) | (refine is_store ?_; refine sr ?_) | (refine is_alloc ?_; refine al ?_) | (refine is_box ?_; refine bx ?_) | (refine isl_load ?_; refine ldl ?_) | (refine isl_store ?_; refine srl ?_) | (refine isl_alloc ?_; refine all' ?_) | (refine isl_box ?_; refine bxl ?_))
              exact go_stop (G := Nat × AR) (k + 1, _) rfl ⟨rfl, trivial⟩ ⟨hlt, hlt2, g7, hx2.trans' (hf4.trans (hf5.trans ((hx6.mono fun _ e => e.elim).trans hf7'))) fun b hb e => by have := g.lof p g.ar.fpp; omega⟩ (by show H.length - (k + 1) < H.length - k; omega)
            · simp only [z1, z2, if_false] at emn emx
              repeat (first | refine sp ?_ | (refine is_load ?_; refine ld ?_) | (refine is_store ?_; refine sr ?_) | (refine is_alloc ?_; refine al ?_) | (refine is_box ?_; refine bx ?_) | (refine isl_load ?_; refine ldl ?_) | (refine isl_store ?_; refine srl ?_) | (refine isl_alloc ?_; refine all' ?_) | (refine isl_box ?_; refine bxl ?_))
              refine dr Try.follows ?_
              repeat (first | refine sp ?_ | (refine is_load ?_; refine ld ?_) | (refine is_store ?_; refine sr ?_) | (refine is_alloc ?_; refine al ?_) | (refine is_box ?_; refine bx ?_) | (refine isl_load ?_; refine ldl ?_) | (refine isl_store ?_; refine srl ?_) | (refine isl_alloc ?_; refine all' ?_) | (refine isl_box ?_; refine bxl ?_))
              refine dr Try.follows ?_
              repeat (first | refine sp ?_ | (refine is_load ?_; refine ld ?_) | (refine is_store ?_; refine sr ?_) | (refine is_alloc ?_; refine al ?_) | (refine is_box ?_; refine bx ?_) | (refine isl_load ?_; refine ldl ?_) | (refine isl_store ?_; refine srl ?_) | (refine isl_alloc ?_; refine all' ?_) | (refine isl_box ?_; refine bxl ?_))
              refine dr Try.follows ?_
              repeat (first | refine sp ?_ | (refine is_load ?_; refine ld ?_) | (refine is_store ?_; refine sr ?_) | (refine is_alloc ?_; refine al ?_) | (refine is_box ?_; refine bx ?_) | (refine isl_load ?_; refine ldl ?_) | (refine isl_store ?_; refine srl ?_) | (refine isl_alloc ?_; refine all' ?_) | (refine isl_box ?_; refine bxl ?_))
              refine dr Try.follows ?_
              repeat (first | refine sp ?_ | (refine is_load ?_; refine ld ?_) | (refine is_store ?_; refine sr ?_) | (refine is_alloc ?_; refine al ?_) | (refine is_box ?_; refine bx ?_) | (refine isl_load ?_; refine ldl ?_) | (refine isl_store ?_; refine srl ?_) | (refine isl_alloc ?_; refine all' ?_) | (refine isl_box ?_; refine bxl ?_))
              refine go_name (F := fun w6 => At w6 nb [.int .i64 N.key, .int .i64 N.val, .int .u32 (N.left : Int), .int .u32 (N.right : Int), .int .i64 N.size, .int .i64 N.sum, .int .i64 N.mn, .int .i64 N.mx] 50 ∧ CliAt w6 w.heap.size c p q ((A1.read N.left).read N.right) (Value.slice (some ⟨b, o, none⟩) H.length cv) H ∧ Ext w5 w6) ⟨hN5.ext (by (repeat (first | exact Fr.refl _ _ | assumption | apply Fr.drewN | apply Fr.alloc | (apply Fr.transF; assumption) | (refine Fr.setRow ?_ _ (by first | exact Or.inr (by (first | omega | (simp; done) | (simp; omega))) | (exact Or.inl (by first | assumption | (simp; done)))))))), g5.ext (by (repeat (first | exact Fr.refl _ _ | assumption | apply Fr.drewN | apply Fr.alloc | (apply Fr.transF; assumption) | (refine Fr.setRow ?_ _ (by first | exact Or.inr (by (first | omega | (simp; done) | (simp; omega))) | (exact Or.inl (by first | assumption | (simp; done)))))))), by (repeat (first | exact Fr.refl _ _ | assumption | apply Fr.drewN | apply Fr.alloc | (apply Fr.transF; assumption) | (refine Fr.setRow ?_ _ (by first | exact Or.inr (by (first | omega | (simp; done) | (simp; omega))) | (exact Or.inl (by first | assumption | (simp; done)))))))⟩ ?_
              rintro w6 ⟨hN6, g6, hx6⟩
              have hc6 := g6.hc
              have hcell6 : w6.cell? ⟨b, o + k, none⟩ = some (.int .u32 (i : Int)) := Fr.cell (S := fun _ => False) hx6 hcell5 id
              refine go_drawE (Fr (fun b => b = p) w6) 0 Try.follows (by kernel_rfl) (by kernel_rfl) (by kernel_rfl) ((Fr.refl _ _).drewN 1) ?_
              repeat (first | refine sp ?_ | (refine is_load ?_; refine ld ?_) | (refine is_store ?_; refine sr ?_) | (refine is_alloc ?_; refine al ?_) | (refine is_box ?_; refine bx ?_) | (refine isl_load ?_; refine ldl ?_) | (refine isl_store ?_; refine srl ?_) | (refine isl_alloc ?_; refine all' ?_) | (refine isl_box ?_; refine bxl ?_))
              refine gol_call rfl rfl (p_Size _ _ p q _ i (g6.ar.ext ((Fr.refl _ _).drewN 1)) (by omega)) ?_
              rintro _ w7 ⟨rfl, ha7, hf7⟩
              rw [husz]
              have hf7' : Fr (fun b => b = p) w6 w7 := Fr.trans ((Fr.refl _ _).drewN 1) hf7
              refine ⟨hf7', ?_⟩
              have g7 := (g6.read ha7 hf7').1
              repeat (first | refine sp ?_ | (refine is_load ?_; refine ld ?_) | (refine is_store ?_; refine sr ?_) | (refine is_alloc ?_; refine al ?_) | (refine is_box ?_; refine bx ?_) | (refine isl_load ?_; refine ldl ?_) | (refine isl_store ?_; refine srl ?_) | (refine isl_alloc ?_; refine all' ?_) | (refine isl_box ?_; refine bxl ?_))
              exact go_stop (G := Nat × AR) (k + 1, _) rfl ⟨rfl, trivial⟩ ⟨hlt, hlt2, g7, hx2.trans' (hf4.trans (hf5.trans ((hx6.mono fun _ e => e.elim).trans hf7'))) fun b hb e => by have := g.lof p g.ar.fpp; omega⟩ (by show H.length - (k + 1) < H.length - k; omega)
    · repeat (first | refine sp ?_ | (refine is_load ?_; refine ld ?_) | (refine is_store ?_; refine sr ?_) | (refine is_alloc ?_; refine al ?_) | (refine is_box ?_; refine bx ?_) | (refine isl_load ?_; refine ldl ?_) | (refine isl_store ?_; refine srl ?_) | (refine isl_alloc ?_; refine all' ?_) | (refine isl_box ?_; refine bxl ?_) | refine dr Try.follows ?_)
      exact go_ret1 rfl rfl ⟨_, rfl, rfl, hx2⟩
  · repeat (first | refine sp ?_ | (refine is_load ?_; refine ld ?_) | (refine is_store ?_; refine sr ?_) | (refine is_alloc ?_; refine al ?_) | (refine is_box ?_; refine bx ?_) | (refine isl_load ?_; refine ldl ?_) | (refine isl_store ?_; refine srl ?_) | (refine isl_alloc ?_; refine all' ?_) | (refine isl_box ?_; refine bxl ?_) | refine dr Try.follows ?_)
    exact go_ret1 rfl rfl ⟨_, rfl, rfl, hx2⟩

end Go.Proofs.Ytapocbahkeoeoaa
