/-
  Double rotations of arbitrary nodes.
-/
import Derived.Test.YtfaeboamjfdjlaaRi
import Derived.Test.YtfaeboamjfdjlaaRf
import Derived.Test.YtfaeboamjfdjlaaKe
import Derived.Test.YtfaeboamjfdjlaaBu
import Derived.Test.YtfaeboamjfdjlaaDm
import Derived.Test.YtfaeboamjfdjlaaEv
set_option linter.unusedVariables false
namespace Go.Proofs.Ytfaeboamjfdjlaa
open Go.Vc

theorem nodeOf_lt {A : AR} {h : Nat → Nat} (s : Sound A h) (c : Nat) : (A.nodeOf c).left < 4294967296 ∧ (A.nodeOf c).right < 4294967296 := by
  cases hu : A.used c with
  | false => rw [nodeOf_un hu]; exact ⟨by show (0 : Nat) < _; omega, by show (0 : Nat) < _; omega⟩
  | true =>
    rw [nodeOf_us hu]
    exact ⟨used_lt s.wf (s.kid c hu).1, used_lt s.wf (s.kid c hu).2⟩

set_option maxHeartbeats 8000000 in
theorem c_LawDouble (lv : Value) (l : List St4) (which : Int) (right : Bool) (spare : Int) (w : World) (h : Rd w 0 lv stC l) (hin : ∀ e ∈ l, InSt e) (hlen : l.length ≤ 9223372036854775807) (hwh : -9223372036854775808 ≤ which ∧ which ≤ 9223372036854775807) (hsp : 0 ≤ spare ∧ spare ≤ 255) :
    Calls Try.prog 4 [lv, .int .i64 which, .bool right, .int .u8 spare].toArray w (Ret fun v w' => v = .bool true ∧ Ext w w') := by
  obtain ⟨S, rfl⟩ := Int.eq_ofNat_of_zero_le hsp.1
  have hs6 : S % 6 < 6 := Nat.mod_lt _ (by omega)
  refine calls_go Try.func4 rfl Try.ntmps4 (Nat.le_of_ble_eq_true rfl) ?_
  repeat (first | refine sp ?_ | (refine is_load ?_; refine ld ?_) | (refine is_store ?_; refine sr ?_) | (refine is_alloc ?_; refine al ?_) | (refine is_box ?_; refine bx ?_) | (refine isl_load ?_; refine ldl ?_) | (refine isl_store ?_; refine srl ?_) | (refine isl_alloc ?_; refine all' ?_) | (refine isl_box ?_; refine bxl ?_))
  refine go_call rfl rfl (c_build12 w lv l (S % 6) h.up hlen hin (by omega)) ?_
  rintro _ w1 ⟨lo, p, q, A, ms, mv, rfl, b1, hfree, hm60⟩
  repeat (first | refine sp ?_ | (refine is_load ?_; refine ld ?_) | (refine is_store ?_; refine sr ?_) | (refine is_alloc ?_; refine al ?_) | (refine is_box ?_; refine bx ?_) | (refine isl_load ?_; refine ldl ?_) | (refine isl_store ?_; refine srl ?_) | (refine isl_alloc ?_; refine all' ?_) | (refine isl_box ?_; refine bxl ?_))
  refine go_call rfl rfl (c_awake12 w1) ?_
  rintro _ w3 ⟨rfl, hx3⟩
  have b3 := b1.step hx3
  have hm1 := b3.len.1
  obtain ⟨u, hu⟩ : ∃ u : Nat, which % (ms.length : Int) = u := ⟨(which % (ms.length : Int)).toNat, by have := Int.emod_nonneg which (show (ms.length : Int) ≠ 0 by omega); omega⟩
  have hul : u < ms.length := by have := Int.emod_lt_of_pos which (show (0 : Int) < ms.length by omega); omega
  obtain ⟨sv, cv, hmv, hcv, _⟩ := Own.slice b3.own
  subst hmv
  obtain ⟨mb, mo, esv, hc1, _⟩ := OwnN.at b3.own hul
  subst esv
  have hrt := b3.us _ (List.getElem_mem hul)
  generalize ms[u] = rt at *
  have hrl := used_lt b3.ars.ar.wf hrt
  cases right with
  | true =>
    have hk1 : (3 : Nat) < 4 := by omega
    repeat (first | refine sp ?_ | (refine is_load ?_; refine ld ?_) | (refine is_store ?_; refine sr ?_) | (refine is_alloc ?_; refine al ?_) | (refine is_box ?_; refine bx ?_) | (refine isl_load ?_; refine ldl ?_) | (refine isl_store ?_; refine srl ?_) | (refine isl_alloc ?_; refine all' ?_) | (refine isl_box ?_; refine bxl ?_))
    refine go_call rfl rfl (c_Mod which ms.length w3 hwh (by omega)) ?_
    rintro _ w3 ⟨rfl, rfl⟩
    rw [hu]
    repeat (first | refine sp ?_ | (refine is_load ?_; refine ld ?_) | (refine is_store ?_; refine sr ?_) | (refine is_alloc ?_; refine al ?_) | (refine is_box ?_; refine bx ?_) | (refine isl_load ?_; refine ldl ?_) | (refine isl_store ?_; refine srl ?_) | (refine isl_alloc ?_; refine all' ?_) | (refine isl_box ?_; refine bxl ?_))
    refine go_call rfl rfl (p_Dump w3 lo p q A b3.ars.ar) ?_
    rintro _ w4 ⟨hd4, hx4⟩
    obtain ⟨s1, c1, s2, c2, rfl, _, _⟩ := hd4.b
    repeat (first | refine sp ?_ | (refine is_load ?_; refine ld ?_) | (refine is_store ?_; refine sr ?_) | (refine is_alloc ?_; refine al ?_) | (refine is_box ?_; refine bx ?_) | (refine isl_load ?_; refine ldl ?_) | (refine isl_store ?_; refine srl ?_) | (refine isl_alloc ?_; refine all' ?_) | (refine isl_box ?_; refine bxl ?_))
    refine go_name (F := fun w5 => At w5 w4.heap.size [.slice s1 A.dump.slots.length c1, .slice s2 A.dump.free.length c2] 31 ∧ Ext w4 w5) ⟨by (repeat (first | assumption | (refine At.new' (by (first | omega | (simp; done) | (simp; omega))) _ _) | apply At.alloc | apply At.drewN | apply At.setRow | (apply At.setRow_neF; first | assumption | (apply Ne.symm; assumption) | omega) | (apply At.extF; assumption))), by (repeat (first | exact Fr.refl _ _ | assumption | apply Fr.drewN | apply Fr.alloc | (apply Fr.transF; assumption) | (refine Fr.setRow ?_ _ (by first | exact Or.inr (by (first | omega | (simp; done) | (simp; omega))) | (exact Or.inl (by first | assumption | (simp; done)))))))⟩ ?_
    rintro w5 ⟨hat5, hx5⟩
    have b5 := (b3.step hx4).step hx5
    have hd5 := hd4.ext hx5
    have hl3 : w3.heap.size ≤ w4.heap.size := hx4.size
    have hfp : ∀ b, q.fp b → b < w3.heap.size := b3.ars.ar.lt
    have hwf := b3.ars.ar.wf
    have hdl := (dump_len hwf).1
    have hdl' := (dump_len hwf).2
    have sndA := b3.ars.snd
    generalize hbd : w4.heap.size = bd at *
    refine go_call rfl rfl (c_call w5 lo p q A _ rt 3 b5.ars b5.hb hrl (by omega)) ?_
    rintro v6 w6 (⟨hF, h2f, q6, R, o, rfl, g6, kp6, hfr6, hG, hq6, hf6⟩ | ⟨E, B', rfl, hE, g6, r6, hf6⟩)
    · have hat6 := hat5.fr hf6 (fun h => by have := hfp _ h; omega)
      have hd6 : DpAt w6 w3.heap.size _ A.dump := hd5.fr hf6 fun b h1 h2 h => by have := hfp b h; omega
      have hx06 : Ext w w6 := b5.ext.trans' hf6 fun b hb e => by have := b5.ars.lof b e; have := b5.lo0; omega
      have hlat := hat6.lt
      have own6 : OwnN w6 w.heap.size (.slice (some ⟨mb, mo, none⟩) ms.length cv) ms := Own.of_heap b5.own fun b hb => hf6.block b (World.ownsRow.lt b5.own b hb).2 (b5.dis b hb)
      have hwfR := g6.ar.wf
      have hdl2 := (dump_len hwfR).1
      have h2f : 3 ≤ A.free := h2f
      have hfr6 : R.free + 3 = A.free := hfr6
      have hF1 : A.used rt = true := hF.1
      repeat (first | refine sp ?_ | (refine is_load ?_; refine ld ?_) | (refine is_store ?_; refine sr ?_) | (refine is_alloc ?_; refine al ?_) | (refine is_box ?_; refine bx ?_) | (refine isl_load ?_; refine ldl ?_) | (refine isl_store ?_; refine srl ?_) | (refine isl_alloc ?_; refine all' ?_) | (refine isl_box ?_; refine bxl ?_))
      refine go_call rfl rfl (p_Dump w6 lo p q6 R g6.ar) ?_
      rintro _ w7 ⟨hd7, hx7⟩
      obtain ⟨s3, c3, s4, c4, rfl, _, _⟩ := hd7.b
      have hat7 := hat6.ext hx7
      have hl67 := hx7.size
      repeat (first | refine sp ?_ | (refine is_load ?_; refine ld ?_) | (refine is_store ?_; refine sr ?_) | (refine is_alloc ?_; refine al ?_) | (refine is_box ?_; refine bx ?_) | (refine isl_load ?_; refine ldl ?_) | (refine isl_store ?_; refine srl ?_) | (refine isl_alloc ?_; refine all' ?_) | (refine isl_box ?_; refine bxl ?_))
      refine go_name (F := fun w8 => At w8 w7.heap.size [.slice s3 R.dump.slots.length c3, .slice s4 R.dump.free.length c4] 31 ∧ At w8 bd [.slice s1 A.dump.slots.length c1, .slice s2 A.dump.free.length c2] 31 ∧ Ext w7 w8) ⟨by (repeat (first | assumption | (refine At.new' (by (first | omega | (simp; done) | (simp; omega))) _ _) | apply At.alloc | apply At.drewN | apply At.setRow | (apply At.setRow_neF; first | assumption | (apply Ne.symm; assumption) | omega) | (apply At.extF; assumption))), by (repeat (first | assumption | (refine At.new' (by (first | omega | (simp; done) | (simp; omega))) _ _) | apply At.alloc | apply At.drewN | apply At.setRow | (apply At.setRow_neF; first | assumption | (apply Ne.symm; assumption) | omega) | (apply At.extF; assumption))), by (repeat (first | exact Fr.refl _ _ | assumption | apply Fr.drewN | apply Fr.alloc | (apply Fr.transF; assumption) | (refine Fr.setRow ?_ _ (by first | exact Or.inr (by (first | omega | (simp; done) | (simp; omega))) | (exact Or.inl (by first | assumption | (simp; done)))))))⟩ ?_
      rintro w8 ⟨hn8, ha8, hx8⟩
      have hdA := (hd6.ext hx7).ext hx8
      have hdN := hd7.ext hx8
      generalize w7.heap.size = bn at *
      refine go_call rfl rfl (c_formed w8 _ _ A _ rt 3 sndA hdA hrl hk1) ?_
      rintro _ w9 ⟨⟨bb, rfl, hbb⟩, hx9⟩
      obtain rfl : bb = true := hbb.2 hF
      have hn9 := hn8.ext hx9
      have ha9 := ha8.ext hx9
      replace hdA := hdA.ext hx9
      replace hdN := hdN.ext hx9
      have hx69 := (hx7.trans hx8).trans hx9
      have hz9 : Ext w9 w9 := Fr.refl _ _
      obtain ⟨X, hX⟩ : ∃ X, A.node rt = X := ⟨_, rfl⟩
      have hnl := nodeOf_lt sndA rt
      rw [nodeOf_us hF1, hX] at hnl
      have hXr := hnl.2
      have hXl := hnl.1
      obtain ⟨M, hM⟩ : ∃ M, A.nodeOf X.right = M := ⟨_, rfl⟩
      have hMl := (nodeOf_lt sndA X.right).1
      rw [hM] at hMl
      obtain ⟨M2, hM2⟩ : ∃ M2, A.nodeOf M.left = M2 := ⟨_, rfl⟩
      have hF2 : A.used X.left = true := by rw [← hX]; exact hF.2.1
      obtain ⟨P, hP⟩ : ∃ P, A.node X.left = P := ⟨_, rfl⟩
      have hF3 : A.used P.right = true := by rw [← hP, ← hX]; exact hF.2.2
      obtain ⟨Q, hQ⟩ : ∃ Q, A.node P.right = Q := ⟨_, rfl⟩
      obtain ⟨j, kk, n1, n2, n3⟩ := hG
      simp only [hX, hP, hQ] at n1 n2 n3
      obtain ⟨Y, hY⟩ : ∃ Y, R.node o = Y := ⟨_, rfl⟩
      obtain ⟨U, hU⟩ : ∃ U, R.node j = U := ⟨_, rfl⟩
      obtain ⟨V, hV⟩ : ∃ V, R.node kk = V := ⟨_, rfl⟩
      have y1 := n1.key; have y2 := n1.val; have y3 := n1.left; have y4 := n1.right
      have u1 := n2.key; have u2 := n2.val; have u3 := n2.left; have u4 := n2.right
      have v1 := n3.key; have v2 := n3.val; have v3 := n3.left; have v4 := n3.right
      rw [hY] at y1 y2 y3 y4
      rw [hU] at u1 u2 u3 u4
      rw [hV] at v1 v2 v3 v4
      have hol := used_lt hwfR (Or.inr n1.use)
      have hjl := used_lt hwfR (Or.inr n2.use)
      have hkl := used_lt hwfR (Or.inr n3.use)
      repeat (first | refine sp ?_ | (refine is_load ?_; refine ld ?_) | (refine is_store ?_; refine sr ?_) | (refine is_alloc ?_; refine al ?_) | (refine is_box ?_; refine bx ?_) | (refine isl_load ?_; refine ldl ?_) | (refine isl_store ?_; refine srl ?_) | (refine isl_alloc ?_; refine all' ?_) | (refine isl_box ?_; refine bxl ?_))
      refine go_call rfl rfl (c_at12 w9 _ _ A.dump rt (hdA.ext hz9) hdl hrl) ?_
      rintro _ w10 ⟨rfl, hx10⟩
      rw [dump_nd hwf, nodeOf_us hF1, hX]
      have ha10 := ha9.ext hx10
      have hn10 := hn9.ext hx10
      have hsz10 := hx10.size
      have hlta10 := ha10.lt
      have hltn10 := hn10.lt
      unfold Nd.cells
      repeat (first | refine sp ?_ | (refine is_load ?_; refine ld ?_) | (refine is_store ?_; refine sr ?_) | (refine is_alloc ?_; refine al ?_) | (refine is_box ?_; refine bx ?_) | (refine isl_load ?_; refine ldl ?_) | (refine isl_store ?_; refine srl ?_) | (refine isl_alloc ?_; refine all' ?_) | (refine isl_box ?_; refine bxl ?_))
      refine go_name (F := fun w11 => At w11 bd [.slice s1 A.dump.slots.length c1, .slice s2 A.dump.free.length c2] 31 ∧ At w11 bn [.slice s3 R.dump.slots.length c3, .slice s4 R.dump.free.length c4] 31 ∧ At w11 w10.heap.size [.int .i64 X.key, .int .i64 X.val, .int .u32 (X.left : Int), .int .u32 (X.right : Int), .int .i64 X.size, .int .i64 X.sum, .int .i64 X.mn, .int .i64 X.mx] 41 ∧ Ext w10 w11) ⟨by (repeat (first | assumption | (refine At.new' (by (first | omega | (simp; done) | (simp; omega))) _ _) | apply At.alloc | apply At.drewN | apply At.setRow | (apply At.setRow_neF; first | assumption | (apply Ne.symm; assumption) | omega) | (apply At.extF; assumption))), by (repeat (first | assumption | (refine At.new' (by (first | omega | (simp; done) | (simp; omega))) _ _) | apply At.alloc | apply At.drewN | apply At.setRow | (apply At.setRow_neF; first | assumption | (apply Ne.symm; assumption) | omega) | (apply At.extF; assumption))), by (repeat (first | assumption | (refine At.new' (by (first | omega | (simp; done) | (simp; omega))) _ _) | apply At.alloc | apply At.drewN | apply At.setRow | (apply At.setRow_neF; first | assumption | (apply Ne.symm; assumption) | omega) | (apply At.extF; assumption))), by (repeat (first | exact Fr.refl _ _ | assumption | apply Fr.drewN | apply Fr.alloc | (apply Fr.transF; assumption) | (refine Fr.setRow ?_ _ (by first | exact Or.inr (by (first | omega | (simp; done) | (simp; omega))) | (exact Or.inl (by first | assumption | (simp; done)))))))⟩ ?_
      rintro w11 ⟨ha11, hn11, hqX11, hx11⟩
      have hz11 := (hz9.trans hx10).trans hx11
      have hl11 := hqX11.lt
      generalize w10.heap.size = bx at *
      repeat (first | refine sp ?_ | (refine is_load ?_; refine ld ?_) | (refine is_store ?_; refine sr ?_) | (refine is_alloc ?_; refine al ?_) | (refine is_box ?_; refine bx ?_) | (refine isl_load ?_; refine ldl ?_) | (refine isl_store ?_; refine srl ?_) | (refine isl_alloc ?_; refine all' ?_) | (refine isl_box ?_; refine bxl ?_))
      refine go_cut (G := Nat × Nat × Nat) [20, 21, 22] (fun ⟨x, y, z⟩ => [ptr x, ptr y, ptr z]) [(2, .bool true), (3, .int .u8 (S : Int)), (9, ptr p), (10, .slice (some ⟨mb, mo, none⟩) ms.length cv), (13, .int .u32 (rt : Int)), (14, ptr bd), (15, .int .u32 (o : Int)), (17, ptr bn), (19, ptr bx)]
        (fun ⟨x, y, z⟩ w' => At w' x [.int .i64 X.key, .int .i64 X.val, .int .u32 (X.left : Int), .int .u32 (X.right : Int), .int .i64 X.size, .int .i64 X.sum, .int .i64 X.mn, .int .i64 X.mx] 41 ∧ At w' y [.int .i64 M2.key, .int .i64 M2.val, .int .u32 (M2.left : Int), .int .u32 (M2.right : Int), .int .i64 M2.size, .int .i64 M2.sum, .int .i64 M2.mn, .int .i64 M2.mx] 41 ∧ At w' z [.int .i64 M.key, .int .i64 M.val, .int .u32 (M.left : Int), .int .u32 (M.right : Int), .int .i64 M.size, .int .i64 M.sum, .int .i64 M.mn, .int .i64 M.mx] 41 ∧ Ext w11 w' ∧ w11.heap.size ≤ x ∧ w11.heap.size ≤ y ∧ w11.heap.size ≤ z ∧ x ≠ y ∧ x ≠ z ∧ y ≠ z) ?_ ?_
      · skip
        have cM : ∀ y, Ext w11 y → Calls Try.prog 18 [.agg ⟨[.slice s1 A.dump.slots.length c1, .slice s2 A.dump.free.length c2]⟩, .int .u32 (X.right : Int)].toArray y (Ret fun v w' => v = .agg ⟨[.int .i64 M.key, .int .i64 M.val, .int .u32 (M.left : Int), .int .u32 (M.right : Int), .int .i64 M.size, .int .i64 M.sum, .int .i64 M.mn, .int .i64 M.mx]⟩ ∧ Ext y w') := fun y hy => (c_at12 y _ _ A.dump X.right (hdA.ext (hz11.trans hy)) hdl hXr).mono fun e z hv => by
          obtain ⟨v, rfl, rfl, hf⟩ := hv
          rw [dump_nd hwf, hM]
          exact ⟨_, rfl, rfl, hf⟩
        have cM2 : ∀ y, Ext w11 y → Calls Try.prog 18 [.agg ⟨[.slice s1 A.dump.slots.length c1, .slice s2 A.dump.free.length c2]⟩, .int .u32 (M.left : Int)].toArray y (Ret fun v w' => v = .agg ⟨[.int .i64 M2.key, .int .i64 M2.val, .int .u32 (M2.left : Int), .int .u32 (M2.right : Int), .int .i64 M2.size, .int .i64 M2.sum, .int .i64 M2.mn, .int .i64 M2.mx]⟩ ∧ Ext y w') := fun y hy => (c_at12 y _ _ A.dump M.left (hdA.ext (hz11.trans hy)) hdl hMl).mono fun e z hv => by
          obtain ⟨v, rfl, rfl, hf⟩ := hv
          rw [dump_nd hwf, hM2]
          exact ⟨_, rfl, rfl, hf⟩
        refine go_sched (Ext w11) (.op 0 (.op 1 (.op 2 (.op 3 (.op 4 (.op 8 (.op 9 (.op 10 (.alt 5 (.op 6 (.alt 7 (.alt 11 (.alt 12 (.alt 13 (.op 14 (.op 15 (.op 16 (.op 17 (.fin))))) (.op 14 (.op 13 (.op 15 (.op 16 (.op 17 (.fin))))))) (.alt 13 (.alt 12 (.op 14 (.op 15 (.op 16 (.op 17 (.fin))))) (.op 14 (.op 12 (.op 15 (.op 16 (.op 17 (.fin))))))) (.op 14 (.alt 12 (.op 13 (.op 15 (.op 16 (.op 17 (.fin))))) (.op 13 (.op 12 (.op 15 (.op 16 (.op 17 (.fin)))))))))) (.alt 12 (.alt 11 (.alt 13 (.op 14 (.op 15 (.op 16 (.op 17 (.fin))))) (.op 14 (.op 13 (.op 15 (.op 16 (.op 17 (.fin))))))) (.alt 13 (.alt 11 (.op 14 (.op 15 (.op 16 (.op 17 (.fin))))) (.op 14 (.op 11 (.op 15 (.op 16 (.op 17 (.fin))))))) (.op 14 (.alt 11 (.op 13 (.op 15 (.op 16 (.op 17 (.fin))))) (.op 13 (.op 11 (.op 15 (.op 16 (.op 17 (.fin)))))))))) (.alt 13 (.alt 11 (.alt 12 (.op 14 (.op 15 (.op 16 (.op 17 (.fin))))) (.op 14 (.op 12 (.op 15 (.op 16 (.op 17 (.fin))))))) (.alt 12 (.alt 11 (.op 14 (.op 15 (.op 16 (.op 17 (.fin))))) (.op 14 (.op 11 (.op 15 (.op 16 (.op 17 (.fin))))))) (.op 14 (.alt 11 (.op 12 (.op 15 (.op 16 (.op 17 (.fin))))) (.op 12 (.op 11 (.op 15 (.op 16 (.op 17 (.fin)))))))))) (.op 14 (.alt 11 (.alt 12 (.op 13 (.op 15 (.op 16 (.op 17 (.fin))))) (.op 13 (.op 12 (.op 15 (.op 16 (.op 17 (.fin))))))) (.alt 12 (.alt 11 (.op 13 (.op 15 (.op 16 (.op 17 (.fin))))) (.op 13 (.op 11 (.op 15 (.op 16 (.op 17 (.fin))))))) (.op 13 (.alt 11 (.op 12 (.op 15 (.op 16 (.op 17 (.fin))))) (.op 12 (.op 11 (.op 15 (.op 16 (.op 17 (.fin)))))))))))))) (.alt 12 (.alt 7 (.alt 11 (.alt 13 (.op 14 (.op 15 (.op 16 (.op 17 (.fin))))) (.op 14 (.op 13 (.op 15 (.op 16 (.op 17 (.fin))))))) (.alt 13 (.alt 11 (.op 14 (.op 15 (.op 16 (.op 17 (.fin))))) (.op 14 (.op 11 (.op 15 (.op 16 (.op 17 (.fin))))))) (.op 14 (.alt 11 (.op 13 (.op 15 (.op 16 (.op 17 (.fin))))) (.op 13 (.op 11 (.op 15 (.op 16 (.op 17 (.fin)))))))))) (.alt 13 (.alt 7 (.alt 11 (.op 14 (.op 15 (.op 16 (.op 17 (.fin))))) (.op 14 (.op 11 (.op 15 (.op 16 (.op 17 (.fin))))))) (.op 14 (.op 7 (.op 11 (.op 15 (.op 16 (.op 17 (.fin)))))))) (.op 14 (.alt 7 (.alt 11 (.op 13 (.op 15 (.op 16 (.op 17 (.fin))))) (.op 13 (.op 11 (.op 15 (.op 16 (.op 17 (.fin))))))) (.op 13 (.op 7 (.op 11 (.op 15 (.op 16 (.op 17 (.fin))))))))))) (.alt 13 (.alt 7 (.alt 11 (.alt 12 (.op 14 (.op 15 (.op 16 (.op 17 (.fin))))) (.op 14 (.op 12 (.op 15 (.op 16 (.op 17 (.fin))))))) (.alt 12 (.alt 11 (.op 14 (.op 15 (.op 16 (.op 17 (.fin))))) (.op 14 (.op 11 (.op 15 (.op 16 (.op 17 (.fin))))))) (.op 14 (.alt 11 (.op 12 (.op 15 (.op 16 (.op 17 (.fin))))) (.op 12 (.op 11 (.op 15 (.op 16 (.op 17 (.fin)))))))))) (.alt 12 (.alt 7 (.alt 11 (.op 14 (.op 15 (.op 16 (.op 17 (.fin))))) (.op 14 (.op 11 (.op 15 (.op 16 (.op 17 (.fin))))))) (.op 14 (.op 7 (.op 11 (.op 15 (.op 16 (.op 17 (.fin)))))))) (.op 14 (.alt 7 (.alt 11 (.op 12 (.op 15 (.op 16 (.op 17 (.fin))))) (.op 12 (.op 11 (.op 15 (.op 16 (.op 17 (.fin))))))) (.op 12 (.op 7 (.op 11 (.op 15 (.op 16 (.op 17 (.fin))))))))))) (.op 14 (.alt 7 (.alt 11 (.alt 12 (.op 13 (.op 15 (.op 16 (.op 17 (.fin))))) (.op 13 (.op 12 (.op 15 (.op 16 (.op 17 (.fin))))))) (.alt 12 (.alt 11 (.op 13 (.op 15 (.op 16 (.op 17 (.fin))))) (.op 13 (.op 11 (.op 15 (.op 16 (.op 17 (.fin))))))) (.op 13 (.alt 11 (.op 12 (.op 15 (.op 16 (.op 17 (.fin))))) (.op 12 (.op 11 (.op 15 (.op 16 (.op 17 (.fin)))))))))) (.alt 12 (.alt 7 (.alt 11 (.op 13 (.op 15 (.op 16 (.op 17 (.fin))))) (.op 13 (.op 11 (.op 15 (.op 16 (.op 17 (.fin))))))) (.op 13 (.op 7 (.op 11 (.op 15 (.op 16 (.op 17 (.fin)))))))) (.op 13 (.alt 7 (.alt 11 (.op 12 (.op 15 (.op 16 (.op 17 (.fin))))) (.op 12 (.op 11 (.op 15 (.op 16 (.op 17 (.fin))))))) (.op 12 (.op 7 (.op 11 (.op 15 (.op 16 (.op 17 (.fin)))))))))))))))) (.alt 12 (.alt 5 (.op 6 (.alt 7 (.alt 11 (.alt 13 (.op 14 (.op 15 (.op 16 (.op 17 (.fin))))) (.op 14 (.op 13 (.op 15 (.op 16 (.op 17 (.fin))))))) (.alt 13 (.alt 11 (.op 14 (.op 15 (.op 16 (.op 17 (.fin))))) (.op 14 (.op 11 (.op 15 (.op 16 (.op 17 (.fin))))))) (.op 14 (.alt 11 (.op 13 (.op 15 (.op 16 (.op 17 (.fin))))) (.op 13 (.op 11 (.op 15 (.op 16 (.op 17 (.fin)))))))))) (.alt 13 (.alt 7 (.alt 11 (.op 14 (.op 15 (.op 16 (.op 17 (.fin))))) (.op 14 (.op 11 (.op 15 (.op 16 (.op 17 (.fin))))))) (.op 14 (.op 7 (.op 11 (.op 15 (.op 16 (.op 17 (.fin)))))))) (.op 14 (.alt 7 (.alt 11 (.op 13 (.op 15 (.op 16 (.op 17 (.fin))))) (.op 13 (.op 11 (.op 15 (.op 16 (.op 17 (.fin))))))) (.op 13 (.op 7 (.op 11 (.op 15 (.op 16 (.op 17 (.fin)))))))))))) (.alt 13 (.alt 5 (.op 6 (.alt 7 (.alt 11 (.op 14 (.op 15 (.op 16 (.op 17 (.fin))))) (.op 14 (.op 11 (.op 15 (.op 16 (.op 17 (.fin))))))) (.op 14 (.op 7 (.op 11 (.op 15 (.op 16 (.op 17 (.fin))))))))) (.op 14 (.op 5 (.op 6 (.op 7 (.op 11 (.op 15 (.op 16 (.op 17 (.fin)))))))))) (.op 14 (.alt 5 (.op 6 (.alt 7 (.alt 11 (.op 13 (.op 15 (.op 16 (.op 17 (.fin))))) (.op 13 (.op 11 (.op 15 (.op 16 (.op 17 (.fin))))))) (.op 13 (.op 7 (.op 11 (.op 15 (.op 16 (.op 17 (.fin))))))))) (.op 13 (.op 5 (.op 6 (.op 7 (.op 11 (.op 15 (.op 16 (.op 17 (.fin))))))))))))) (.alt 13 (.alt 5 (.op 6 (.alt 7 (.alt 11 (.alt 12 (.op 14 (.op 15 (.op 16 (.op 17 (.fin))))) (.op 14 (.op 12 (.op 15 (.op 16 (.op 17 (.fin))))))) (.alt 12 (.alt 11 (.op 14 (.op 15 (.op 16 (.op 17 (.fin))))) (.op 14 (.op 11 (.op 15 (.op 16 (.op 17 (.fin))))))) (.op 14 (.alt 11 (.op 12 (.op 15 (.op 16 (.op 17 (.fin))))) (.op 12 (.op 11 (.op 15 (.op 16 (.op 17 (.fin)))))))))) (.alt 12 (.alt 7 (.alt 11 (.op 14 (.op 15 (.op 16 (.op 17 (.fin))))) (.op 14 (.op 11 (.op 15 (.op 16 (.op 17 (.fin))))))) (.op 14 (.op 7 (.op 11 (.op 15 (.op 16 (.op 17 (.fin)))))))) (.op 14 (.alt 7 (.alt 11 (.op 12 (.op 15 (.op 16 (.op 17 (.fin))))) (.op 12 (.op 11 (.op 15 (.op 16 (.op 17 (.fin))))))) (.op 12 (.op 7 (.op 11 (.op 15 (.op 16 (.op 17 (.fin)))))))))))) (.alt 12 (.alt 5 (.op 6 (.alt 7 (.alt 11 (.op 14 (.op 15 (.op 16 (.op 17 (.fin))))) (.op 14 (.op 11 (.op 15 (.op 16 (.op 17 (.fin))))))) (.op 14 (.op 7 (.op 11 (.op 15 (.op 16 (.op 17 (.fin))))))))) (.op 14 (.op 5 (.op 6 (.op 7 (.op 11 (.op 15 (.op 16 (.op 17 (.fin)))))))))) (.op 14 (.alt 5 (.op 6 (.alt 7 (.alt 11 (.op 12 (.op 15 (.op 16 (.op 17 (.fin))))) (.op 12 (.op 11 (.op 15 (.op 16 (.op 17 (.fin))))))) (.op 12 (.op 7 (.op 11 (.op 15 (.op 16 (.op 17 (.fin))))))))) (.op 12 (.op 5 (.op 6 (.op 7 (.op 11 (.op 15 (.op 16 (.op 17 (.fin))))))))))))) (.op 14 (.alt 5 (.op 6 (.alt 7 (.alt 11 (.alt 12 (.op 13 (.op 15 (.op 16 (.op 17 (.fin))))) (.op 13 (.op 12 (.op 15 (.op 16 (.op 17 (.fin))))))) (.alt 12 (.alt 11 (.op 13 (.op 15 (.op 16 (.op 17 (.fin))))) (.op 13 (.op 11 (.op 15 (.op 16 (.op 17 (.fin))))))) (.op 13 (.alt 11 (.op 12 (.op 15 (.op 16 (.op 17 (.fin))))) (.op 12 (.op 11 (.op 15 (.op 16 (.op 17 (.fin)))))))))) (.alt 12 (.alt 7 (.alt 11 (.op 13 (.op 15 (.op 16 (.op 17 (.fin))))) (.op 13 (.op 11 (.op 15 (.op 16 (.op 17 (.fin))))))) (.op 13 (.op 7 (.op 11 (.op 15 (.op 16 (.op 17 (.fin)))))))) (.op 13 (.alt 7 (.alt 11 (.op 12 (.op 15 (.op 16 (.op 17 (.fin))))) (.op 12 (.op 11 (.op 15 (.op 16 (.op 17 (.fin))))))) (.op 12 (.op 7 (.op 11 (.op 15 (.op 16 (.op 17 (.fin)))))))))))) (.alt 12 (.alt 5 (.op 6 (.alt 7 (.alt 11 (.op 13 (.op 15 (.op 16 (.op 17 (.fin))))) (.op 13 (.op 11 (.op 15 (.op 16 (.op 17 (.fin))))))) (.op 13 (.op 7 (.op 11 (.op 15 (.op 16 (.op 17 (.fin))))))))) (.op 13 (.op 5 (.op 6 (.op 7 (.op 11 (.op 15 (.op 16 (.op 17 (.fin)))))))))) (.op 13 (.alt 5 (.op 6 (.alt 7 (.alt 11 (.op 12 (.op 15 (.op 16 (.op 17 (.fin))))) (.op 12 (.op 11 (.op 15 (.op 16 (.op 17 (.fin))))))) (.op 12 (.op 7 (.op 11 (.op 15 (.op 16 (.op 17 (.fin))))))))) (.op 12 (.op 5 (.op 6 (.op 7 (.op 11 (.op 15 (.op 16 (.op 17 (.fin))))))))))))))))))))))))) Try.follows (by kernel_rfl) (by kernel_rfl) (by kernel_rfl) ((Fr.refl _ _).drewN 1) ?_
        have h : Bk 41 w11 (w11.drewN 1) [] := Bk.nil ((Fr.refl _ _).drewN 1)
        repeat (first | refine sp ?_ | (refine is_load ?_; refine ld ?_) | (refine is_store ?_; refine sr ?_) | (refine is_alloc ?_; refine al ?_) | (refine is_box ?_; refine bx ?_) | (refine isl_load ?_; refine ldl ?_) | (refine isl_store ?_; refine srl ?_) | (refine isl_alloc ?_; refine all' ?_) | (refine isl_box ?_; refine bxl ?_))
        refine go_alt rfl (ev_call rfl rfl h cM fun w h => ?_) ?_
        · refine go_op rfl ?_
          refine sp ?_
          refine gol_nil ?_
          refine go_alt rfl (ev_call rfl rfl h cM2 fun w h => ?_) ?_
          · refine go_alt rfl (ev_call rfl rfl h cM fun w h => ?_) ?_
            · refine go_alt rfl (ev_al rfl h fun w h => ?_) ?_
              · refine go_alt rfl (ev_al rfl h fun w h => ?_) ?_
                · refine go_op rfl (ev_al rfl h fun w h => ?_)
                  refine go_op rfl (ev_st (i := 2) rfl rfl h rfl rfl rfl rfl rfl fun w h => ?_)
                  refine go_op rfl (ev_st (i := 1) rfl rfl h rfl rfl rfl rfl rfl fun w h => ?_)
                  refine go_op rfl (ev_st (i := 0) rfl rfl h rfl rfl rfl rfl rfl fun w h => ?_)
                  exact go_fin (go_stop (G := Nat × Nat × Nat) (_, _, _) rfl ⟨rfl, rfl, rfl, rfl, rfl, rfl, rfl, rfl, rfl, trivial⟩ (Bk.out (i := 2) (j := 1) (k := 0) h rfl rfl rfl (by decide) (by decide) (by decide)) trivial)
                refine go_op rfl (ev_al rfl h fun w h => ?_)
                refine go_op rfl (ev_al rfl h fun w h => ?_)
                refine go_op rfl (ev_st (i := 2) rfl rfl h rfl rfl rfl rfl rfl fun w h => ?_)
                refine go_op rfl (ev_st (i := 0) rfl rfl h rfl rfl rfl rfl rfl fun w h => ?_)
                refine go_op rfl (ev_st (i := 1) rfl rfl h rfl rfl rfl rfl rfl fun w h => ?_)
                exact go_fin (go_stop (G := Nat × Nat × Nat) (_, _, _) rfl ⟨rfl, rfl, rfl, rfl, rfl, rfl, rfl, rfl, rfl, trivial⟩ (Bk.out (i := 2) (j := 0) (k := 1) h rfl rfl rfl (by decide) (by decide) (by decide)) trivial)
              refine go_alt rfl (ev_al rfl h fun w h => ?_) ?_
              · refine go_alt rfl (ev_al rfl h fun w h => ?_) ?_
                · refine go_op rfl (ev_al rfl h fun w h => ?_)
                  refine go_op rfl (ev_st (i := 1) rfl rfl h rfl rfl rfl rfl rfl fun w h => ?_)
                  refine go_op rfl (ev_st (i := 2) rfl rfl h rfl rfl rfl rfl rfl fun w h => ?_)
                  refine go_op rfl (ev_st (i := 0) rfl rfl h rfl rfl rfl rfl rfl fun w h => ?_)
                  exact go_fin (go_stop (G := Nat × Nat × Nat) (_, _, _) rfl ⟨rfl, rfl, rfl, rfl, rfl, rfl, rfl, rfl, rfl, trivial⟩ (Bk.out (i := 1) (j := 2) (k := 0) h rfl rfl rfl (by decide) (by decide) (by decide)) trivial)
                refine go_op rfl (ev_al rfl h fun w h => ?_)
                refine go_op rfl (ev_al rfl h fun w h => ?_)
                refine go_op rfl (ev_st (i := 0) rfl rfl h rfl rfl rfl rfl rfl fun w h => ?_)
                refine go_op rfl (ev_st (i := 2) rfl rfl h rfl rfl rfl rfl rfl fun w h => ?_)
                refine go_op rfl (ev_st (i := 1) rfl rfl h rfl rfl rfl rfl rfl fun w h => ?_)
                exact go_fin (go_stop (G := Nat × Nat × Nat) (_, _, _) rfl ⟨rfl, rfl, rfl, rfl, rfl, rfl, rfl, rfl, rfl, trivial⟩ (Bk.out (i := 0) (j := 2) (k := 1) h rfl rfl rfl (by decide) (by decide) (by decide)) trivial)
              refine go_op rfl (ev_al rfl h fun w h => ?_)
              refine go_alt rfl (ev_al rfl h fun w h => ?_) ?_
              · refine go_op rfl (ev_al rfl h fun w h => ?_)
                refine go_op rfl (ev_st (i := 1) rfl rfl h rfl rfl rfl rfl rfl fun w h => ?_)
                refine go_op rfl (ev_st (i := 0) rfl rfl h rfl rfl rfl rfl rfl fun w h => ?_)
                refine go_op rfl (ev_st (i := 2) rfl rfl h rfl rfl rfl rfl rfl fun w h => ?_)
                exact go_fin (go_stop (G := Nat × Nat × Nat) (_, _, _) rfl ⟨rfl, rfl, rfl, rfl, rfl, rfl, rfl, rfl, rfl, trivial⟩ (Bk.out (i := 1) (j := 0) (k := 2) h rfl rfl rfl (by decide) (by decide) (by decide)) trivial)
              refine go_op rfl (ev_al rfl h fun w h => ?_)
              refine go_op rfl (ev_al rfl h fun w h => ?_)
              refine go_op rfl (ev_st (i := 0) rfl rfl h rfl rfl rfl rfl rfl fun w h => ?_)
              refine go_op rfl (ev_st (i := 1) rfl rfl h rfl rfl rfl rfl rfl fun w h => ?_)
              refine go_op rfl (ev_st (i := 2) rfl rfl h rfl rfl rfl rfl rfl fun w h => ?_)
              exact go_fin (go_stop (G := Nat × Nat × Nat) (_, _, _) rfl ⟨rfl, rfl, rfl, rfl, rfl, rfl, rfl, rfl, rfl, trivial⟩ (Bk.out (i := 0) (j := 1) (k := 2) h rfl rfl rfl (by decide) (by decide) (by decide)) trivial)
            refine go_alt rfl (ev_al rfl h fun w h => ?_) ?_
            · refine go_alt rfl (ev_call rfl rfl h cM fun w h => ?_) ?_
              · refine go_alt rfl (ev_al rfl h fun w h => ?_) ?_
                · refine go_op rfl (ev_al rfl h fun w h => ?_)
                  refine go_op rfl (ev_st (i := 2) rfl rfl h rfl rfl rfl rfl rfl fun w h => ?_)
                  refine go_op rfl (ev_st (i := 1) rfl rfl h rfl rfl rfl rfl rfl fun w h => ?_)
                  refine go_op rfl (ev_st (i := 0) rfl rfl h rfl rfl rfl rfl rfl fun w h => ?_)
                  exact go_fin (go_stop (G := Nat × Nat × Nat) (_, _, _) rfl ⟨rfl, rfl, rfl, rfl, rfl, rfl, rfl, rfl, rfl, trivial⟩ (Bk.out (i := 2) (j := 1) (k := 0) h rfl rfl rfl (by decide) (by decide) (by decide)) trivial)
                refine go_op rfl (ev_al rfl h fun w h => ?_)
                refine go_op rfl (ev_al rfl h fun w h => ?_)
                refine go_op rfl (ev_st (i := 2) rfl rfl h rfl rfl rfl rfl rfl fun w h => ?_)
                refine go_op rfl (ev_st (i := 0) rfl rfl h rfl rfl rfl rfl rfl fun w h => ?_)
                refine go_op rfl (ev_st (i := 1) rfl rfl h rfl rfl rfl rfl rfl fun w h => ?_)
                exact go_fin (go_stop (G := Nat × Nat × Nat) (_, _, _) rfl ⟨rfl, rfl, rfl, rfl, rfl, rfl, rfl, rfl, rfl, trivial⟩ (Bk.out (i := 2) (j := 0) (k := 1) h rfl rfl rfl (by decide) (by decide) (by decide)) trivial)
              refine go_alt rfl (ev_al rfl h fun w h => ?_) ?_
              · refine go_alt rfl (ev_call rfl rfl h cM fun w h => ?_) ?_
                · refine go_op rfl (ev_al rfl h fun w h => ?_)
                  refine go_op rfl (ev_st (i := 2) rfl rfl h rfl rfl rfl rfl rfl fun w h => ?_)
                  refine go_op rfl (ev_st (i := 1) rfl rfl h rfl rfl rfl rfl rfl fun w h => ?_)
                  refine go_op rfl (ev_st (i := 0) rfl rfl h rfl rfl rfl rfl rfl fun w h => ?_)
                  exact go_fin (go_stop (G := Nat × Nat × Nat) (_, _, _) rfl ⟨rfl, rfl, rfl, rfl, rfl, rfl, rfl, rfl, rfl, trivial⟩ (Bk.out (i := 2) (j := 1) (k := 0) h rfl rfl rfl (by decide) (by decide) (by decide)) trivial)
                refine go_op rfl (ev_al rfl h fun w h => ?_)
                refine go_op rfl (ev_call rfl rfl h cM fun w h => ?_)
                refine go_op rfl (ev_st (i := 2) rfl rfl h rfl rfl rfl rfl rfl fun w h => ?_)
                refine go_op rfl (ev_st (i := 1) rfl rfl h rfl rfl rfl rfl rfl fun w h => ?_)
                refine go_op rfl (ev_st (i := 0) rfl rfl h rfl rfl rfl rfl rfl fun w h => ?_)
                exact go_fin (go_stop (G := Nat × Nat × Nat) (_, _, _) rfl ⟨rfl, rfl, rfl, rfl, rfl, rfl, rfl, rfl, rfl, trivial⟩ (Bk.out (i := 2) (j := 1) (k := 0) h rfl rfl rfl (by decide) (by decide) (by decide)) trivial)
              refine go_op rfl (ev_al rfl h fun w h => ?_)
              refine go_alt rfl (ev_call rfl rfl h cM fun w h => ?_) ?_
              · refine go_op rfl (ev_al rfl h fun w h => ?_)
                refine go_op rfl (ev_st (i := 2) rfl rfl h rfl rfl rfl rfl rfl fun w h => ?_)
                refine go_op rfl (ev_st (i := 0) rfl rfl h rfl rfl rfl rfl rfl fun w h => ?_)
                refine go_op rfl (ev_st (i := 1) rfl rfl h rfl rfl rfl rfl rfl fun w h => ?_)
                exact go_fin (go_stop (G := Nat × Nat × Nat) (_, _, _) rfl ⟨rfl, rfl, rfl, rfl, rfl, rfl, rfl, rfl, rfl, trivial⟩ (Bk.out (i := 2) (j := 0) (k := 1) h rfl rfl rfl (by decide) (by decide) (by decide)) trivial)
              refine go_op rfl (ev_al rfl h fun w h => ?_)
              refine go_op rfl (ev_call rfl rfl h cM fun w h => ?_)
              refine go_op rfl (ev_st (i := 2) rfl rfl h rfl rfl rfl rfl rfl fun w h => ?_)
              refine go_op rfl (ev_st (i := 0) rfl rfl h rfl rfl rfl rfl rfl fun w h => ?_)
              refine go_op rfl (ev_st (i := 1) rfl rfl h rfl rfl rfl rfl rfl fun w h => ?_)
              exact go_fin (go_stop (G := Nat × Nat × Nat) (_, _, _) rfl ⟨rfl, rfl, rfl, rfl, rfl, rfl, rfl, rfl, rfl, trivial⟩ (Bk.out (i := 2) (j := 0) (k := 1) h rfl rfl rfl (by decide) (by decide) (by decide)) trivial)
            refine go_alt rfl (ev_al rfl h fun w h => ?_) ?_
            · refine go_alt rfl (ev_call rfl rfl h cM fun w h => ?_) ?_
              · refine go_alt rfl (ev_al rfl h fun w h => ?_) ?_
                · refine go_op rfl (ev_al rfl h fun w h => ?_)
                  refine go_op rfl (ev_st (i := 1) rfl rfl h rfl rfl rfl rfl rfl fun w h => ?_)
                  refine go_op rfl (ev_st (i := 2) rfl rfl h rfl rfl rfl rfl rfl fun w h => ?_)
                  refine go_op rfl (ev_st (i := 0) rfl rfl h rfl rfl rfl rfl rfl fun w h => ?_)
                  exact go_fin (go_stop (G := Nat × Nat × Nat) (_, _, _) rfl ⟨rfl, rfl, rfl, rfl, rfl, rfl, rfl, rfl, rfl, trivial⟩ (Bk.out (i := 1) (j := 2) (k := 0) h rfl rfl rfl (by decide) (by decide) (by decide)) trivial)
                refine go_op rfl (ev_al rfl h fun w h => ?_)
                refine go_op rfl (ev_al rfl h fun w h => ?_)
                refine go_op rfl (ev_st (i := 0) rfl rfl h rfl rfl rfl rfl rfl fun w h => ?_)
                refine go_op rfl (ev_st (i := 2) rfl rfl h rfl rfl rfl rfl rfl fun w h => ?_)
                refine go_op rfl (ev_st (i := 1) rfl rfl h rfl rfl rfl rfl rfl fun w h => ?_)
                exact go_fin (go_stop (G := Nat × Nat × Nat) (_, _, _) rfl ⟨rfl, rfl, rfl, rfl, rfl, rfl, rfl, rfl, rfl, trivial⟩ (Bk.out (i := 0) (j := 2) (k := 1) h rfl rfl rfl (by decide) (by decide) (by decide)) trivial)
              refine go_alt rfl (ev_al rfl h fun w h => ?_) ?_
              · refine go_alt rfl (ev_call rfl rfl h cM fun w h => ?_) ?_
                · refine go_op rfl (ev_al rfl h fun w h => ?_)
                  refine go_op rfl (ev_st (i := 1) rfl rfl h rfl rfl rfl rfl rfl fun w h => ?_)
                  refine go_op rfl (ev_st (i := 2) rfl rfl h rfl rfl rfl rfl rfl fun w h => ?_)
                  refine go_op rfl (ev_st (i := 0) rfl rfl h rfl rfl rfl rfl rfl fun w h => ?_)
                  exact go_fin (go_stop (G := Nat × Nat × Nat) (_, _, _) rfl ⟨rfl, rfl, rfl, rfl, rfl, rfl, rfl, rfl, rfl, trivial⟩ (Bk.out (i := 1) (j := 2) (k := 0) h rfl rfl rfl (by decide) (by decide) (by decide)) trivial)
                refine go_op rfl (ev_al rfl h fun w h => ?_)
                refine go_op rfl (ev_call rfl rfl h cM fun w h => ?_)
                refine go_op rfl (ev_st (i := 1) rfl rfl h rfl rfl rfl rfl rfl fun w h => ?_)
                refine go_op rfl (ev_st (i := 2) rfl rfl h rfl rfl rfl rfl rfl fun w h => ?_)
                refine go_op rfl (ev_st (i := 0) rfl rfl h rfl rfl rfl rfl rfl fun w h => ?_)
                exact go_fin (go_stop (G := Nat × Nat × Nat) (_, _, _) rfl ⟨rfl, rfl, rfl, rfl, rfl, rfl, rfl, rfl, rfl, trivial⟩ (Bk.out (i := 1) (j := 2) (k := 0) h rfl rfl rfl (by decide) (by decide) (by decide)) trivial)
              refine go_op rfl (ev_al rfl h fun w h => ?_)
              refine go_alt rfl (ev_call rfl rfl h cM fun w h => ?_) ?_
              · refine go_op rfl (ev_al rfl h fun w h => ?_)
                refine go_op rfl (ev_st (i := 0) rfl rfl h rfl rfl rfl rfl rfl fun w h => ?_)
                refine go_op rfl (ev_st (i := 2) rfl rfl h rfl rfl rfl rfl rfl fun w h => ?_)
                refine go_op rfl (ev_st (i := 1) rfl rfl h rfl rfl rfl rfl rfl fun w h => ?_)
                exact go_fin (go_stop (G := Nat × Nat × Nat) (_, _, _) rfl ⟨rfl, rfl, rfl, rfl, rfl, rfl, rfl, rfl, rfl, trivial⟩ (Bk.out (i := 0) (j := 2) (k := 1) h rfl rfl rfl (by decide) (by decide) (by decide)) trivial)
              refine go_op rfl (ev_al rfl h fun w h => ?_)
              refine go_op rfl (ev_call rfl rfl h cM fun w h => ?_)
              refine go_op rfl (ev_st (i := 0) rfl rfl h rfl rfl rfl rfl rfl fun w h => ?_)
              refine go_op rfl (ev_st (i := 2) rfl rfl h rfl rfl rfl rfl rfl fun w h => ?_)
              refine go_op rfl (ev_st (i := 1) rfl rfl h rfl rfl rfl rfl rfl fun w h => ?_)
              exact go_fin (go_stop (G := Nat × Nat × Nat) (_, _, _) rfl ⟨rfl, rfl, rfl, rfl, rfl, rfl, rfl, rfl, rfl, trivial⟩ (Bk.out (i := 0) (j := 2) (k := 1) h rfl rfl rfl (by decide) (by decide) (by decide)) trivial)
            refine go_op rfl (ev_al rfl h fun w h => ?_)
            refine go_alt rfl (ev_call rfl rfl h cM fun w h => ?_) ?_
            · refine go_alt rfl (ev_al rfl h fun w h => ?_) ?_
              · refine go_op rfl (ev_al rfl h fun w h => ?_)
                refine go_op rfl (ev_st (i := 1) rfl rfl h rfl rfl rfl rfl rfl fun w h => ?_)
                refine go_op rfl (ev_st (i := 0) rfl rfl h rfl rfl rfl rfl rfl fun w h => ?_)
                refine go_op rfl (ev_st (i := 2) rfl rfl h rfl rfl rfl rfl rfl fun w h => ?_)
                exact go_fin (go_stop (G := Nat × Nat × Nat) (_, _, _) rfl ⟨rfl, rfl, rfl, rfl, rfl, rfl, rfl, rfl, rfl, trivial⟩ (Bk.out (i := 1) (j := 0) (k := 2) h rfl rfl rfl (by decide) (by decide) (by decide)) trivial)
              refine go_op rfl (ev_al rfl h fun w h => ?_)
              refine go_op rfl (ev_al rfl h fun w h => ?_)
              refine go_op rfl (ev_st (i := 0) rfl rfl h rfl rfl rfl rfl rfl fun w h => ?_)
              refine go_op rfl (ev_st (i := 1) rfl rfl h rfl rfl rfl rfl rfl fun w h => ?_)
              refine go_op rfl (ev_st (i := 2) rfl rfl h rfl rfl rfl rfl rfl fun w h => ?_)
              exact go_fin (go_stop (G := Nat × Nat × Nat) (_, _, _) rfl ⟨rfl, rfl, rfl, rfl, rfl, rfl, rfl, rfl, rfl, trivial⟩ (Bk.out (i := 0) (j := 1) (k := 2) h rfl rfl rfl (by decide) (by decide) (by decide)) trivial)
            refine go_alt rfl (ev_al rfl h fun w h => ?_) ?_
            · refine go_alt rfl (ev_call rfl rfl h cM fun w h => ?_) ?_
              · refine go_op rfl (ev_al rfl h fun w h => ?_)
                refine go_op rfl (ev_st (i := 1) rfl rfl h rfl rfl rfl rfl rfl fun w h => ?_)
                refine go_op rfl (ev_st (i := 0) rfl rfl h rfl rfl rfl rfl rfl fun w h => ?_)
                refine go_op rfl (ev_st (i := 2) rfl rfl h rfl rfl rfl rfl rfl fun w h => ?_)
                exact go_fin (go_stop (G := Nat × Nat × Nat) (_, _, _) rfl ⟨rfl, rfl, rfl, rfl, rfl, rfl, rfl, rfl, rfl, trivial⟩ (Bk.out (i := 1) (j := 0) (k := 2) h rfl rfl rfl (by decide) (by decide) (by decide)) trivial)
              refine go_op rfl (ev_al rfl h fun w h => ?_)
              refine go_op rfl (ev_call rfl rfl h cM fun w h => ?_)
              refine go_op rfl (ev_st (i := 1) rfl rfl h rfl rfl rfl rfl rfl fun w h => ?_)
              refine go_op rfl (ev_st (i := 0) rfl rfl h rfl rfl rfl rfl rfl fun w h => ?_)
              refine go_op rfl (ev_st (i := 2) rfl rfl h rfl rfl rfl rfl rfl fun w h => ?_)
              exact go_fin (go_stop (G := Nat × Nat × Nat) (_, _, _) rfl ⟨rfl, rfl, rfl, rfl, rfl, rfl, rfl, rfl, rfl, trivial⟩ (Bk.out (i := 1) (j := 0) (k := 2) h rfl rfl rfl (by decide) (by decide) (by decide)) trivial)
            refine go_op rfl (ev_al rfl h fun w h => ?_)
            refine go_alt rfl (ev_call rfl rfl h cM fun w h => ?_) ?_
            · refine go_op rfl (ev_al rfl h fun w h => ?_)
              refine go_op rfl (ev_st (i := 0) rfl rfl h rfl rfl rfl rfl rfl fun w h => ?_)
              refine go_op rfl (ev_st (i := 1) rfl rfl h rfl rfl rfl rfl rfl fun w h => ?_)
              refine go_op rfl (ev_st (i := 2) rfl rfl h rfl rfl rfl rfl rfl fun w h => ?_)
              exact go_fin (go_stop (G := Nat × Nat × Nat) (_, _, _) rfl ⟨rfl, rfl, rfl, rfl, rfl, rfl, rfl, rfl, rfl, trivial⟩ (Bk.out (i := 0) (j := 1) (k := 2) h rfl rfl rfl (by decide) (by decide) (by decide)) trivial)
            refine go_op rfl (ev_al rfl h fun w h => ?_)
            refine go_op rfl (ev_call rfl rfl h cM fun w h => ?_)
            refine go_op rfl (ev_st (i := 0) rfl rfl h rfl rfl rfl rfl rfl fun w h => ?_)
            refine go_op rfl (ev_st (i := 1) rfl rfl h rfl rfl rfl rfl rfl fun w h => ?_)
            refine go_op rfl (ev_st (i := 2) rfl rfl h rfl rfl rfl rfl rfl fun w h => ?_)
            exact go_fin (go_stop (G := Nat × Nat × Nat) (_, _, _) rfl ⟨rfl, rfl, rfl, rfl, rfl, rfl, rfl, rfl, rfl, trivial⟩ (Bk.out (i := 0) (j := 1) (k := 2) h rfl rfl rfl (by decide) (by decide) (by decide)) trivial)
          refine go_alt rfl (ev_al rfl h fun w h => ?_) ?_
          · refine go_alt rfl (ev_call rfl rfl h cM2 fun w h => ?_) ?_
            · refine go_alt rfl (ev_call rfl rfl h cM fun w h => ?_) ?_
              · refine go_alt rfl (ev_al rfl h fun w h => ?_) ?_
                · refine go_op rfl (ev_al rfl h fun w h => ?_)
                  refine go_op rfl (ev_st (i := 2) rfl rfl h rfl rfl rfl rfl rfl fun w h => ?_)
                  refine go_op rfl (ev_st (i := 1) rfl rfl h rfl rfl rfl rfl rfl fun w h => ?_)
                  refine go_op rfl (ev_st (i := 0) rfl rfl h rfl rfl rfl rfl rfl fun w h => ?_)
                  exact go_fin (go_stop (G := Nat × Nat × Nat) (_, _, _) rfl ⟨rfl, rfl, rfl, rfl, rfl, rfl, rfl, rfl, rfl, trivial⟩ (Bk.out (i := 2) (j := 1) (k := 0) h rfl rfl rfl (by decide) (by decide) (by decide)) trivial)
                refine go_op rfl (ev_al rfl h fun w h => ?_)
                refine go_op rfl (ev_al rfl h fun w h => ?_)
                refine go_op rfl (ev_st (i := 2) rfl rfl h rfl rfl rfl rfl rfl fun w h => ?_)
                refine go_op rfl (ev_st (i := 0) rfl rfl h rfl rfl rfl rfl rfl fun w h => ?_)
                refine go_op rfl (ev_st (i := 1) rfl rfl h rfl rfl rfl rfl rfl fun w h => ?_)
                exact go_fin (go_stop (G := Nat × Nat × Nat) (_, _, _) rfl ⟨rfl, rfl, rfl, rfl, rfl, rfl, rfl, rfl, rfl, trivial⟩ (Bk.out (i := 2) (j := 0) (k := 1) h rfl rfl rfl (by decide) (by decide) (by decide)) trivial)
              refine go_alt rfl (ev_al rfl h fun w h => ?_) ?_
              · refine go_alt rfl (ev_call rfl rfl h cM fun w h => ?_) ?_
                · refine go_op rfl (ev_al rfl h fun w h => ?_)
                  refine go_op rfl (ev_st (i := 2) rfl rfl h rfl rfl rfl rfl rfl fun w h => ?_)
                  refine go_op rfl (ev_st (i := 1) rfl rfl h rfl rfl rfl rfl rfl fun w h => ?_)
                  refine go_op rfl (ev_st (i := 0) rfl rfl h rfl rfl rfl rfl rfl fun w h => ?_)
                  exact go_fin (go_stop (G := Nat × Nat × Nat) (_, _, _) rfl ⟨rfl, rfl, rfl, rfl, rfl, rfl, rfl, rfl, rfl, trivial⟩ (Bk.out (i := 2) (j := 1) (k := 0) h rfl rfl rfl (by decide) (by decide) (by decide)) trivial)
                refine go_op rfl (ev_al rfl h fun w h => ?_)
                refine go_op rfl (ev_call rfl rfl h cM fun w h => ?_)
                refine go_op rfl (ev_st (i := 2) rfl rfl h rfl rfl rfl rfl rfl fun w h => ?_)
                refine go_op rfl (ev_st (i := 1) rfl rfl h rfl rfl rfl rfl rfl fun w h => ?_)
                refine go_op rfl (ev_st (i := 0) rfl rfl h rfl rfl rfl rfl rfl fun w h => ?_)
                exact go_fin (go_stop (G := Nat × Nat × Nat) (_, _, _) rfl ⟨rfl, rfl, rfl, rfl, rfl, rfl, rfl, rfl, rfl, trivial⟩ (Bk.out (i := 2) (j := 1) (k := 0) h rfl rfl rfl (by decide) (by decide) (by decide)) trivial)
              refine go_op rfl (ev_al rfl h fun w h => ?_)
              refine go_alt rfl (ev_call rfl rfl h cM fun w h => ?_) ?_
              · refine go_op rfl (ev_al rfl h fun w h => ?_)
                refine go_op rfl (ev_st (i := 2) rfl rfl h rfl rfl rfl rfl rfl fun w h => ?_)
                refine go_op rfl (ev_st (i := 0) rfl rfl h rfl rfl rfl rfl rfl fun w h => ?_)
                refine go_op rfl (ev_st (i := 1) rfl rfl h rfl rfl rfl rfl rfl fun w h => ?_)
                exact go_fin (go_stop (G := Nat × Nat × Nat) (_, _, _) rfl ⟨rfl, rfl, rfl, rfl, rfl, rfl, rfl, rfl, rfl, trivial⟩ (Bk.out (i := 2) (j := 0) (k := 1) h rfl rfl rfl (by decide) (by decide) (by decide)) trivial)
              refine go_op rfl (ev_al rfl h fun w h => ?_)
              refine go_op rfl (ev_call rfl rfl h cM fun w h => ?_)
              refine go_op rfl (ev_st (i := 2) rfl rfl h rfl rfl rfl rfl rfl fun w h => ?_)
              refine go_op rfl (ev_st (i := 0) rfl rfl h rfl rfl rfl rfl rfl fun w h => ?_)
              refine go_op rfl (ev_st (i := 1) rfl rfl h rfl rfl rfl rfl rfl fun w h => ?_)
              exact go_fin (go_stop (G := Nat × Nat × Nat) (_, _, _) rfl ⟨rfl, rfl, rfl, rfl, rfl, rfl, rfl, rfl, rfl, trivial⟩ (Bk.out (i := 2) (j := 0) (k := 1) h rfl rfl rfl (by decide) (by decide) (by decide)) trivial)
            refine go_alt rfl (ev_al rfl h fun w h => ?_) ?_
            · refine go_alt rfl (ev_call rfl rfl h cM2 fun w h => ?_) ?_
              · refine go_alt rfl (ev_call rfl rfl h cM fun w h => ?_) ?_
                · refine go_op rfl (ev_al rfl h fun w h => ?_)
                  refine go_op rfl (ev_st (i := 2) rfl rfl h rfl rfl rfl rfl rfl fun w h => ?_)
                  refine go_op rfl (ev_st (i := 1) rfl rfl h rfl rfl rfl rfl rfl fun w h => ?_)
                  refine go_op rfl (ev_st (i := 0) rfl rfl h rfl rfl rfl rfl rfl fun w h => ?_)
                  exact go_fin (go_stop (G := Nat × Nat × Nat) (_, _, _) rfl ⟨rfl, rfl, rfl, rfl, rfl, rfl, rfl, rfl, rfl, trivial⟩ (Bk.out (i := 2) (j := 1) (k := 0) h rfl rfl rfl (by decide) (by decide) (by decide)) trivial)
                refine go_op rfl (ev_al rfl h fun w h => ?_)
                refine go_op rfl (ev_call rfl rfl h cM fun w h => ?_)
                refine go_op rfl (ev_st (i := 2) rfl rfl h rfl rfl rfl rfl rfl fun w h => ?_)
                refine go_op rfl (ev_st (i := 1) rfl rfl h rfl rfl rfl rfl rfl fun w h => ?_)
                refine go_op rfl (ev_st (i := 0) rfl rfl h rfl rfl rfl rfl rfl fun w h => ?_)
                exact go_fin (go_stop (G := Nat × Nat × Nat) (_, _, _) rfl ⟨rfl, rfl, rfl, rfl, rfl, rfl, rfl, rfl, rfl, trivial⟩ (Bk.out (i := 2) (j := 1) (k := 0) h rfl rfl rfl (by decide) (by decide) (by decide)) trivial)
              refine go_op rfl (ev_al rfl h fun w h => ?_)
              refine go_op rfl (ev_call rfl rfl h cM2 fun w h => ?_)
              refine go_op rfl (ev_call rfl rfl h cM fun w h => ?_)
              refine go_op rfl (ev_st (i := 2) rfl rfl h rfl rfl rfl rfl rfl fun w h => ?_)
              refine go_op rfl (ev_st (i := 1) rfl rfl h rfl rfl rfl rfl rfl fun w h => ?_)
              refine go_op rfl (ev_st (i := 0) rfl rfl h rfl rfl rfl rfl rfl fun w h => ?_)
              exact go_fin (go_stop (G := Nat × Nat × Nat) (_, _, _) rfl ⟨rfl, rfl, rfl, rfl, rfl, rfl, rfl, rfl, rfl, trivial⟩ (Bk.out (i := 2) (j := 1) (k := 0) h rfl rfl rfl (by decide) (by decide) (by decide)) trivial)
            refine go_op rfl (ev_al rfl h fun w h => ?_)
            refine go_alt rfl (ev_call rfl rfl h cM2 fun w h => ?_) ?_
            · refine go_alt rfl (ev_call rfl rfl h cM fun w h => ?_) ?_
              · refine go_op rfl (ev_al rfl h fun w h => ?_)
                refine go_op rfl (ev_st (i := 2) rfl rfl h rfl rfl rfl rfl rfl fun w h => ?_)
                refine go_op rfl (ev_st (i := 0) rfl rfl h rfl rfl rfl rfl rfl fun w h => ?_)
                refine go_op rfl (ev_st (i := 1) rfl rfl h rfl rfl rfl rfl rfl fun w h => ?_)
                exact go_fin (go_stop (G := Nat × Nat × Nat) (_, _, _) rfl ⟨rfl, rfl, rfl, rfl, rfl, rfl, rfl, rfl, rfl, trivial⟩ (Bk.out (i := 2) (j := 0) (k := 1) h rfl rfl rfl (by decide) (by decide) (by decide)) trivial)
              refine go_op rfl (ev_al rfl h fun w h => ?_)
              refine go_op rfl (ev_call rfl rfl h cM fun w h => ?_)
              refine go_op rfl (ev_st (i := 2) rfl rfl h rfl rfl rfl rfl rfl fun w h => ?_)
              refine go_op rfl (ev_st (i := 0) rfl rfl h rfl rfl rfl rfl rfl fun w h => ?_)
              refine go_op rfl (ev_st (i := 1) rfl rfl h rfl rfl rfl rfl rfl fun w h => ?_)
              exact go_fin (go_stop (G := Nat × Nat × Nat) (_, _, _) rfl ⟨rfl, rfl, rfl, rfl, rfl, rfl, rfl, rfl, rfl, trivial⟩ (Bk.out (i := 2) (j := 0) (k := 1) h rfl rfl rfl (by decide) (by decide) (by decide)) trivial)
            refine go_op rfl (ev_al rfl h fun w h => ?_)
            refine go_op rfl (ev_call rfl rfl h cM2 fun w h => ?_)
            refine go_op rfl (ev_call rfl rfl h cM fun w h => ?_)
            refine go_op rfl (ev_st (i := 2) rfl rfl h rfl rfl rfl rfl rfl fun w h => ?_)
            refine go_op rfl (ev_st (i := 0) rfl rfl h rfl rfl rfl rfl rfl fun w h => ?_)
            refine go_op rfl (ev_st (i := 1) rfl rfl h rfl rfl rfl rfl rfl fun w h => ?_)
            exact go_fin (go_stop (G := Nat × Nat × Nat) (_, _, _) rfl ⟨rfl, rfl, rfl, rfl, rfl, rfl, rfl, rfl, rfl, trivial⟩ (Bk.out (i := 2) (j := 0) (k := 1) h rfl rfl rfl (by decide) (by decide) (by decide)) trivial)
          refine go_alt rfl (ev_al rfl h fun w h => ?_) ?_
          · refine go_alt rfl (ev_call rfl rfl h cM2 fun w h => ?_) ?_
            · refine go_alt rfl (ev_call rfl rfl h cM fun w h => ?_) ?_
              · refine go_alt rfl (ev_al rfl h fun w h => ?_) ?_
                · refine go_op rfl (ev_al rfl h fun w h => ?_)
                  refine go_op rfl (ev_st (i := 1) rfl rfl h rfl rfl rfl rfl rfl fun w h => ?_)
                  refine go_op rfl (ev_st (i := 2) rfl rfl h rfl rfl rfl rfl rfl fun w h => ?_)
                  refine go_op rfl (ev_st (i := 0) rfl rfl h rfl rfl rfl rfl rfl fun w h => ?_)
                  exact go_fin (go_stop (G := Nat × Nat × Nat) (_, _, _) rfl ⟨rfl, rfl, rfl, rfl, rfl, rfl, rfl, rfl, rfl, trivial⟩ (Bk.out (i := 1) (j := 2) (k := 0) h rfl rfl rfl (by decide) (by decide) (by decide)) trivial)
                refine go_op rfl (ev_al rfl h fun w h => ?_)
                refine go_op rfl (ev_al rfl h fun w h => ?_)
                refine go_op rfl (ev_st (i := 0) rfl rfl h rfl rfl rfl rfl rfl fun w h => ?_)
                refine go_op rfl (ev_st (i := 2) rfl rfl h rfl rfl rfl rfl rfl fun w h => ?_)
                refine go_op rfl (ev_st (i := 1) rfl rfl h rfl rfl rfl rfl rfl fun w h => ?_)
                exact go_fin (go_stop (G := Nat × Nat × Nat) (_, _, _) rfl ⟨rfl, rfl, rfl, rfl, rfl, rfl, rfl, rfl, rfl, trivial⟩ (Bk.out (i := 0) (j := 2) (k := 1) h rfl rfl rfl (by decide) (by decide) (by decide)) trivial)
              refine go_alt rfl (ev_al rfl h fun w h => ?_) ?_
              · refine go_alt rfl (ev_call rfl rfl h cM fun w h => ?_) ?_
                · refine go_op rfl (ev_al rfl h fun w h => ?_)
                  refine go_op rfl (ev_st (i := 1) rfl rfl h rfl rfl rfl rfl rfl fun w h => ?_)
                  refine go_op rfl (ev_st (i := 2) rfl rfl h rfl rfl rfl rfl rfl fun w h => ?_)
                  refine go_op rfl (ev_st (i := 0) rfl rfl h rfl rfl rfl rfl rfl fun w h => ?_)
                  exact go_fin (go_stop (G := Nat × Nat × Nat) (_, _, _) rfl ⟨rfl, rfl, rfl, rfl, rfl, rfl, rfl, rfl, rfl, trivial⟩ (Bk.out (i := 1) (j := 2) (k := 0) h rfl rfl rfl (by decide) (by decide) (by decide)) trivial)
                refine go_op rfl (ev_al rfl h fun w h => ?_)
                refine go_op rfl (ev_call rfl rfl h cM fun w h => ?_)
                refine go_op rfl (ev_st (i := 1) rfl rfl h rfl rfl rfl rfl rfl fun w h => ?_)
                refine go_op rfl (ev_st (i := 2) rfl rfl h rfl rfl rfl rfl rfl fun w h => ?_)
                refine go_op rfl (ev_st (i := 0) rfl rfl h rfl rfl rfl rfl rfl fun w h => ?_)
                exact go_fin (go_stop (G := Nat × Nat × Nat) (_, _, _) rfl ⟨rfl, rfl, rfl, rfl, rfl, rfl, rfl, rfl, rfl, trivial⟩ (Bk.out (i := 1) (j := 2) (k := 0) h rfl rfl rfl (by decide) (by decide) (by decide)) trivial)
              refine go_op rfl (ev_al rfl h fun w h => ?_)
              refine go_alt rfl (ev_call rfl rfl h cM fun w h => ?_) ?_
              · refine go_op rfl (ev_al rfl h fun w h => ?_)
                refine go_op rfl (ev_st (i := 0) rfl rfl h rfl rfl rfl rfl rfl fun w h => ?_)
                refine go_op rfl (ev_st (i := 2) rfl rfl h rfl rfl rfl rfl rfl fun w h => ?_)
                refine go_op rfl (ev_st (i := 1) rfl rfl h rfl rfl rfl rfl rfl fun w h => ?_)
                exact go_fin (go_stop (G := Nat × Nat × Nat) (_, _, _) rfl ⟨rfl, rfl, rfl, rfl, rfl, rfl, rfl, rfl, rfl, trivial⟩ (Bk.out (i := 0) (j := 2) (k := 1) h rfl rfl rfl (by decide) (by decide) (by decide)) trivial)
              refine go_op rfl (ev_al rfl h fun w h => ?_)
              refine go_op rfl (ev_call rfl rfl h cM fun w h => ?_)
              refine go_op rfl (ev_st (i := 0) rfl rfl h rfl rfl rfl rfl rfl fun w h => ?_)
              refine go_op rfl (ev_st (i := 2) rfl rfl h rfl rfl rfl rfl rfl fun w h => ?_)
              refine go_op rfl (ev_st (i := 1) rfl rfl h rfl rfl rfl rfl rfl fun w h => ?_)
              exact go_fin (go_stop (G := Nat × Nat × Nat) (_, _, _) rfl ⟨rfl, rfl, rfl, rfl, rfl, rfl, rfl, rfl, rfl, trivial⟩ (Bk.out (i := 0) (j := 2) (k := 1) h rfl rfl rfl (by decide) (by decide) (by decide)) trivial)
            refine go_alt rfl (ev_al rfl h fun w h => ?_) ?_
            · refine go_alt rfl (ev_call rfl rfl h cM2 fun w h => ?_) ?_
              · refine go_alt rfl (ev_call rfl rfl h cM fun w h => ?_) ?_
                · refine go_op rfl (ev_al rfl h fun w h => ?_)
                  refine go_op rfl (ev_st (i := 1) rfl rfl h rfl rfl rfl rfl rfl fun w h => ?_)
                  refine go_op rfl (ev_st (i := 2) rfl rfl h rfl rfl rfl rfl rfl fun w h => ?_)
                  refine go_op rfl (ev_st (i := 0) rfl rfl h rfl rfl rfl rfl rfl fun w h => ?_)
                  exact go_fin (go_stop (G := Nat × Nat × Nat) (_, _, _) rfl ⟨rfl, rfl, rfl, rfl, rfl, rfl, rfl, rfl, rfl, trivial⟩ (Bk.out (i := 1) (j := 2) (k := 0) h rfl rfl rfl (by decide) (by decide) (by decide)) trivial)
                refine go_op rfl (ev_al rfl h fun w h => ?_)
                refine go_op rfl (ev_call rfl rfl h cM fun w h => ?_)
                refine go_op rfl (ev_st (i := 1) rfl rfl h rfl rfl rfl rfl rfl fun w h => ?_)
                refine go_op rfl (ev_st (i := 2) rfl rfl h rfl rfl rfl rfl rfl fun w h => ?_)
                refine go_op rfl (ev_st (i := 0) rfl rfl h rfl rfl rfl rfl rfl fun w h => ?_)
                exact go_fin (go_stop (G := Nat × Nat × Nat) (_, _, _) rfl ⟨rfl, rfl, rfl, rfl, rfl, rfl, rfl, rfl, rfl, trivial⟩ (Bk.out (i := 1) (j := 2) (k := 0) h rfl rfl rfl (by decide) (by decide) (by decide)) trivial)
              refine go_op rfl (ev_al rfl h fun w h => ?_)
              refine go_op rfl (ev_call rfl rfl h cM2 fun w h => ?_)
              refine go_op rfl (ev_call rfl rfl h cM fun w h => ?_)
              refine go_op rfl (ev_st (i := 1) rfl rfl h rfl rfl rfl rfl rfl fun w h => ?_)
              refine go_op rfl (ev_st (i := 2) rfl rfl h rfl rfl rfl rfl rfl fun w h => ?_)
              refine go_op rfl (ev_st (i := 0) rfl rfl h rfl rfl rfl rfl rfl fun w h => ?_)
              exact go_fin (go_stop (G := Nat × Nat × Nat) (_, _, _) rfl ⟨rfl, rfl, rfl, rfl, rfl, rfl, rfl, rfl, rfl, trivial⟩ (Bk.out (i := 1) (j := 2) (k := 0) h rfl rfl rfl (by decide) (by decide) (by decide)) trivial)
            refine go_op rfl (ev_al rfl h fun w h => ?_)
            refine go_alt rfl (ev_call rfl rfl h cM2 fun w h => ?_) ?_
            · refine go_alt rfl (ev_call rfl rfl h cM fun w h => ?_) ?_
              · refine go_op rfl (ev_al rfl h fun w h => ?_)
                refine go_op rfl (ev_st (i := 0) rfl rfl h rfl rfl rfl rfl rfl fun w h => ?_)
                refine go_op rfl (ev_st (i := 2) rfl rfl h rfl rfl rfl rfl rfl fun w h => ?_)
                refine go_op rfl (ev_st (i := 1) rfl rfl h rfl rfl rfl rfl rfl fun w h => ?_)
                exact go_fin (go_stop (G := Nat × Nat × Nat) (_, _, _) rfl ⟨rfl, rfl, rfl, rfl, rfl, rfl, rfl, rfl, rfl, trivial⟩ (Bk.out (i := 0) (j := 2) (k := 1) h rfl rfl rfl (by decide) (by decide) (by decide)) trivial)
              refine go_op rfl (ev_al rfl h fun w h => ?_)
              refine go_op rfl (ev_call rfl rfl h cM fun w h => ?_)
              refine go_op rfl (ev_st (i := 0) rfl rfl h rfl rfl rfl rfl rfl fun w h => ?_)
              refine go_op rfl (ev_st (i := 2) rfl rfl h rfl rfl rfl rfl rfl fun w h => ?_)
              refine go_op rfl (ev_st (i := 1) rfl rfl h rfl rfl rfl rfl rfl fun w h => ?_)
              exact go_fin (go_stop (G := Nat × Nat × Nat) (_, _, _) rfl ⟨rfl, rfl, rfl, rfl, rfl, rfl, rfl, rfl, rfl, trivial⟩ (Bk.out (i := 0) (j := 2) (k := 1) h rfl rfl rfl (by decide) (by decide) (by decide)) trivial)
            refine go_op rfl (ev_al rfl h fun w h => ?_)
            refine go_op rfl (ev_call rfl rfl h cM2 fun w h => ?_)
            refine go_op rfl (ev_call rfl rfl h cM fun w h => ?_)
            refine go_op rfl (ev_st (i := 0) rfl rfl h rfl rfl rfl rfl rfl fun w h => ?_)
            refine go_op rfl (ev_st (i := 2) rfl rfl h rfl rfl rfl rfl rfl fun w h => ?_)
            refine go_op rfl (ev_st (i := 1) rfl rfl h rfl rfl rfl rfl rfl fun w h => ?_)
            exact go_fin (go_stop (G := Nat × Nat × Nat) (_, _, _) rfl ⟨rfl, rfl, rfl, rfl, rfl, rfl, rfl, rfl, rfl, trivial⟩ (Bk.out (i := 0) (j := 2) (k := 1) h rfl rfl rfl (by decide) (by decide) (by decide)) trivial)
          refine go_op rfl (ev_al rfl h fun w h => ?_)
          refine go_alt rfl (ev_call rfl rfl h cM2 fun w h => ?_) ?_
          · refine go_alt rfl (ev_call rfl rfl h cM fun w h => ?_) ?_
            · refine go_alt rfl (ev_al rfl h fun w h => ?_) ?_
              · refine go_op rfl (ev_al rfl h fun w h => ?_)
                refine go_op rfl (ev_st (i := 1) rfl rfl h rfl rfl rfl rfl rfl fun w h => ?_)
                refine go_op rfl (ev_st (i := 0) rfl rfl h rfl rfl rfl rfl rfl fun w h => ?_)
                refine go_op rfl (ev_st (i := 2) rfl rfl h rfl rfl rfl rfl rfl fun w h => ?_)
                exact go_fin (go_stop (G := Nat × Nat × Nat) (_, _, _) rfl ⟨rfl, rfl, rfl, rfl, rfl, rfl, rfl, rfl, rfl, trivial⟩ (Bk.out (i := 1) (j := 0) (k := 2) h rfl rfl rfl (by decide) (by decide) (by decide)) trivial)
              refine go_op rfl (ev_al rfl h fun w h => ?_)
              refine go_op rfl (ev_al rfl h fun w h => ?_)
              refine go_op rfl (ev_st (i := 0) rfl rfl h rfl rfl rfl rfl rfl fun w h => ?_)
              refine go_op rfl (ev_st (i := 1) rfl rfl h rfl rfl rfl rfl rfl fun w h => ?_)
              refine go_op rfl (ev_st (i := 2) rfl rfl h rfl rfl rfl rfl rfl fun w h => ?_)
              exact go_fin (go_stop (G := Nat × Nat × Nat) (_, _, _) rfl ⟨rfl, rfl, rfl, rfl, rfl, rfl, rfl, rfl, rfl, trivial⟩ (Bk.out (i := 0) (j := 1) (k := 2) h rfl rfl rfl (by decide) (by decide) (by decide)) trivial)
            refine go_alt rfl (ev_al rfl h fun w h => ?_) ?_
            · refine go_alt rfl (ev_call rfl rfl h cM fun w h => ?_) ?_
              · refine go_op rfl (ev_al rfl h fun w h => ?_)
                refine go_op rfl (ev_st (i := 1) rfl rfl h rfl rfl rfl rfl rfl fun w h => ?_)
                refine go_op rfl (ev_st (i := 0) rfl rfl h rfl rfl rfl rfl rfl fun w h => ?_)
                refine go_op rfl (ev_st (i := 2) rfl rfl h rfl rfl rfl rfl rfl fun w h => ?_)
                exact go_fin (go_stop (G := Nat × Nat × Nat) (_, _, _) rfl ⟨rfl, rfl, rfl, rfl, rfl, rfl, rfl, rfl, rfl, trivial⟩ (Bk.out (i := 1) (j := 0) (k := 2) h rfl rfl rfl (by decide) (by decide) (by decide)) trivial)
              refine go_op rfl (ev_al rfl h fun w h => ?_)
              refine go_op rfl (ev_call rfl rfl h cM fun w h => ?_)
              refine go_op rfl (ev_st (i := 1) rfl rfl h rfl rfl rfl rfl rfl fun w h => ?_)
              refine go_op rfl (ev_st (i := 0) rfl rfl h rfl rfl rfl rfl rfl fun w h => ?_)
              refine go_op rfl (ev_st (i := 2) rfl rfl h rfl rfl rfl rfl rfl fun w h => ?_)
              exact go_fin (go_stop (G := Nat × Nat × Nat) (_, _, _) rfl ⟨rfl, rfl, rfl, rfl, rfl, rfl, rfl, rfl, rfl, trivial⟩ (Bk.out (i := 1) (j := 0) (k := 2) h rfl rfl rfl (by decide) (by decide) (by decide)) trivial)
            refine go_op rfl (ev_al rfl h fun w h => ?_)
            refine go_alt rfl (ev_call rfl rfl h cM fun w h => ?_) ?_
            · refine go_op rfl (ev_al rfl h fun w h => ?_)
              refine go_op rfl (ev_st (i := 0) rfl rfl h rfl rfl rfl rfl rfl fun w h => ?_)
              refine go_op rfl (ev_st (i := 1) rfl rfl h rfl rfl rfl rfl rfl fun w h => ?_)
              refine go_op rfl (ev_st (i := 2) rfl rfl h rfl rfl rfl rfl rfl fun w h => ?_)
              exact go_fin (go_stop (G := Nat × Nat × Nat) (_, _, _) rfl ⟨rfl, rfl, rfl, rfl, rfl, rfl, rfl, rfl, rfl, trivial⟩ (Bk.out (i := 0) (j := 1) (k := 2) h rfl rfl rfl (by decide) (by decide) (by decide)) trivial)
            refine go_op rfl (ev_al rfl h fun w h => ?_)
            refine go_op rfl (ev_call rfl rfl h cM fun w h => ?_)
            refine go_op rfl (ev_st (i := 0) rfl rfl h rfl rfl rfl rfl rfl fun w h => ?_)
            refine go_op rfl (ev_st (i := 1) rfl rfl h rfl rfl rfl rfl rfl fun w h => ?_)
            refine go_op rfl (ev_st (i := 2) rfl rfl h rfl rfl rfl rfl rfl fun w h => ?_)
            exact go_fin (go_stop (G := Nat × Nat × Nat) (_, _, _) rfl ⟨rfl, rfl, rfl, rfl, rfl, rfl, rfl, rfl, rfl, trivial⟩ (Bk.out (i := 0) (j := 1) (k := 2) h rfl rfl rfl (by decide) (by decide) (by decide)) trivial)
          refine go_alt rfl (ev_al rfl h fun w h => ?_) ?_
          · refine go_alt rfl (ev_call rfl rfl h cM2 fun w h => ?_) ?_
            · refine go_alt rfl (ev_call rfl rfl h cM fun w h => ?_) ?_
              · refine go_op rfl (ev_al rfl h fun w h => ?_)
                refine go_op rfl (ev_st (i := 1) rfl rfl h rfl rfl rfl rfl rfl fun w h => ?_)
                refine go_op rfl (ev_st (i := 0) rfl rfl h rfl rfl rfl rfl rfl fun w h => ?_)
                refine go_op rfl (ev_st (i := 2) rfl rfl h rfl rfl rfl rfl rfl fun w h => ?_)
                exact go_fin (go_stop (G := Nat × Nat × Nat) (_, _, _) rfl ⟨rfl, rfl, rfl, rfl, rfl, rfl, rfl, rfl, rfl, trivial⟩ (Bk.out (i := 1) (j := 0) (k := 2) h rfl rfl rfl (by decide) (by decide) (by decide)) trivial)
              refine go_op rfl (ev_al rfl h fun w h => ?_)
              refine go_op rfl (ev_call rfl rfl h cM fun w h => ?_)
              refine go_op rfl (ev_st (i := 1) rfl rfl h rfl rfl rfl rfl rfl fun w h => ?_)
              refine go_op rfl (ev_st (i := 0) rfl rfl h rfl rfl rfl rfl rfl fun w h => ?_)
              refine go_op rfl (ev_st (i := 2) rfl rfl h rfl rfl rfl rfl rfl fun w h => ?_)
              exact go_fin (go_stop (G := Nat × Nat × Nat) (_, _, _) rfl ⟨rfl, rfl, rfl, rfl, rfl, rfl, rfl, rfl, rfl, trivial⟩ (Bk.out (i := 1) (j := 0) (k := 2) h rfl rfl rfl (by decide) (by decide) (by decide)) trivial)
            refine go_op rfl (ev_al rfl h fun w h => ?_)
            refine go_op rfl (ev_call rfl rfl h cM2 fun w h => ?_)
            refine go_op rfl (ev_call rfl rfl h cM fun w h => ?_)
            refine go_op rfl (ev_st (i := 1) rfl rfl h rfl rfl rfl rfl rfl fun w h => ?_)
            refine go_op rfl (ev_st (i := 0) rfl rfl h rfl rfl rfl rfl rfl fun w h => ?_)
            refine go_op rfl (ev_st (i := 2) rfl rfl h rfl rfl rfl rfl rfl fun w h => ?_)
            exact go_fin (go_stop (G := Nat × Nat × Nat) (_, _, _) rfl ⟨rfl, rfl, rfl, rfl, rfl, rfl, rfl, rfl, rfl, trivial⟩ (Bk.out (i := 1) (j := 0) (k := 2) h rfl rfl rfl (by decide) (by decide) (by decide)) trivial)
          refine go_op rfl (ev_al rfl h fun w h => ?_)
          refine go_alt rfl (ev_call rfl rfl h cM2 fun w h => ?_) ?_
          · refine go_alt rfl (ev_call rfl rfl h cM fun w h => ?_) ?_
            · refine go_op rfl (ev_al rfl h fun w h => ?_)
              refine go_op rfl (ev_st (i := 0) rfl rfl h rfl rfl rfl rfl rfl fun w h => ?_)
              refine go_op rfl (ev_st (i := 1) rfl rfl h rfl rfl rfl rfl rfl fun w h => ?_)
              refine go_op rfl (ev_st (i := 2) rfl rfl h rfl rfl rfl rfl rfl fun w h => ?_)
              exact go_fin (go_stop (G := Nat × Nat × Nat) (_, _, _) rfl ⟨rfl, rfl, rfl, rfl, rfl, rfl, rfl, rfl, rfl, trivial⟩ (Bk.out (i := 0) (j := 1) (k := 2) h rfl rfl rfl (by decide) (by decide) (by decide)) trivial)
            refine go_op rfl (ev_al rfl h fun w h => ?_)
            refine go_op rfl (ev_call rfl rfl h cM fun w h => ?_)
            refine go_op rfl (ev_st (i := 0) rfl rfl h rfl rfl rfl rfl rfl fun w h => ?_)
            refine go_op rfl (ev_st (i := 1) rfl rfl h rfl rfl rfl rfl rfl fun w h => ?_)
            refine go_op rfl (ev_st (i := 2) rfl rfl h rfl rfl rfl rfl rfl fun w h => ?_)
            exact go_fin (go_stop (G := Nat × Nat × Nat) (_, _, _) rfl ⟨rfl, rfl, rfl, rfl, rfl, rfl, rfl, rfl, rfl, trivial⟩ (Bk.out (i := 0) (j := 1) (k := 2) h rfl rfl rfl (by decide) (by decide) (by decide)) trivial)
          refine go_op rfl (ev_al rfl h fun w h => ?_)
          refine go_op rfl (ev_call rfl rfl h cM2 fun w h => ?_)
          refine go_op rfl (ev_call rfl rfl h cM fun w h => ?_)
          refine go_op rfl (ev_st (i := 0) rfl rfl h rfl rfl rfl rfl rfl fun w h => ?_)
          refine go_op rfl (ev_st (i := 1) rfl rfl h rfl rfl rfl rfl rfl fun w h => ?_)
          refine go_op rfl (ev_st (i := 2) rfl rfl h rfl rfl rfl rfl rfl fun w h => ?_)
          exact go_fin (go_stop (G := Nat × Nat × Nat) (_, _, _) rfl ⟨rfl, rfl, rfl, rfl, rfl, rfl, rfl, rfl, rfl, trivial⟩ (Bk.out (i := 0) (j := 1) (k := 2) h rfl rfl rfl (by decide) (by decide) (by decide)) trivial)
        refine go_alt rfl (ev_al rfl h fun w h => ?_) ?_
        · refine go_alt rfl (ev_call rfl rfl h cM fun w h => ?_) ?_
          · refine go_op rfl ?_
            refine sp ?_
            refine gol_nil ?_
            refine go_alt rfl (ev_call rfl rfl h cM2 fun w h => ?_) ?_
            · refine go_alt rfl (ev_call rfl rfl h cM fun w h => ?_) ?_
              · refine go_alt rfl (ev_al rfl h fun w h => ?_) ?_
                · refine go_op rfl (ev_al rfl h fun w h => ?_)
                  refine go_op rfl (ev_st (i := 2) rfl rfl h rfl rfl rfl rfl rfl fun w h => ?_)
                  refine go_op rfl (ev_st (i := 1) rfl rfl h rfl rfl rfl rfl rfl fun w h => ?_)
                  refine go_op rfl (ev_st (i := 0) rfl rfl h rfl rfl rfl rfl rfl fun w h => ?_)
                  exact go_fin (go_stop (G := Nat × Nat × Nat) (_, _, _) rfl ⟨rfl, rfl, rfl, rfl, rfl, rfl, rfl, rfl, rfl, trivial⟩ (Bk.out (i := 2) (j := 1) (k := 0) h rfl rfl rfl (by decide) (by decide) (by decide)) trivial)
                refine go_op rfl (ev_al rfl h fun w h => ?_)
                refine go_op rfl (ev_al rfl h fun w h => ?_)
                refine go_op rfl (ev_st (i := 2) rfl rfl h rfl rfl rfl rfl rfl fun w h => ?_)
                refine go_op rfl (ev_st (i := 0) rfl rfl h rfl rfl rfl rfl rfl fun w h => ?_)
                refine go_op rfl (ev_st (i := 1) rfl rfl h rfl rfl rfl rfl rfl fun w h => ?_)
                exact go_fin (go_stop (G := Nat × Nat × Nat) (_, _, _) rfl ⟨rfl, rfl, rfl, rfl, rfl, rfl, rfl, rfl, rfl, trivial⟩ (Bk.out (i := 2) (j := 0) (k := 1) h rfl rfl rfl (by decide) (by decide) (by decide)) trivial)
              refine go_alt rfl (ev_al rfl h fun w h => ?_) ?_
              · refine go_alt rfl (ev_call rfl rfl h cM fun w h => ?_) ?_
                · refine go_op rfl (ev_al rfl h fun w h => ?_)
                  refine go_op rfl (ev_st (i := 2) rfl rfl h rfl rfl rfl rfl rfl fun w h => ?_)
                  refine go_op rfl (ev_st (i := 1) rfl rfl h rfl rfl rfl rfl rfl fun w h => ?_)
                  refine go_op rfl (ev_st (i := 0) rfl rfl h rfl rfl rfl rfl rfl fun w h => ?_)
                  exact go_fin (go_stop (G := Nat × Nat × Nat) (_, _, _) rfl ⟨rfl, rfl, rfl, rfl, rfl, rfl, rfl, rfl, rfl, trivial⟩ (Bk.out (i := 2) (j := 1) (k := 0) h rfl rfl rfl (by decide) (by decide) (by decide)) trivial)
                refine go_op rfl (ev_al rfl h fun w h => ?_)
                refine go_op rfl (ev_call rfl rfl h cM fun w h => ?_)
                refine go_op rfl (ev_st (i := 2) rfl rfl h rfl rfl rfl rfl rfl fun w h => ?_)
                refine go_op rfl (ev_st (i := 1) rfl rfl h rfl rfl rfl rfl rfl fun w h => ?_)
                refine go_op rfl (ev_st (i := 0) rfl rfl h rfl rfl rfl rfl rfl fun w h => ?_)
                exact go_fin (go_stop (G := Nat × Nat × Nat) (_, _, _) rfl ⟨rfl, rfl, rfl, rfl, rfl, rfl, rfl, rfl, rfl, trivial⟩ (Bk.out (i := 2) (j := 1) (k := 0) h rfl rfl rfl (by decide) (by decide) (by decide)) trivial)
              refine go_op rfl (ev_al rfl h fun w h => ?_)
              refine go_alt rfl (ev_call rfl rfl h cM fun w h => ?_) ?_
              · refine go_op rfl (ev_al rfl h fun w h => ?_)
                refine go_op rfl (ev_st (i := 2) rfl rfl h rfl rfl rfl rfl rfl fun w h => ?_)
                refine go_op rfl (ev_st (i := 0) rfl rfl h rfl rfl rfl rfl rfl fun w h => ?_)
                refine go_op rfl (ev_st (i := 1) rfl rfl h rfl rfl rfl rfl rfl fun w h => ?_)
                exact go_fin (go_stop (G := Nat × Nat × Nat) (_, _, _) rfl ⟨rfl, rfl, rfl, rfl, rfl, rfl, rfl, rfl, rfl, trivial⟩ (Bk.out (i := 2) (j := 0) (k := 1) h rfl rfl rfl (by decide) (by decide) (by decide)) trivial)
              refine go_op rfl (ev_al rfl h fun w h => ?_)
              refine go_op rfl (ev_call rfl rfl h cM fun w h => ?_)
              refine go_op rfl (ev_st (i := 2) rfl rfl h rfl rfl rfl rfl rfl fun w h => ?_)
              refine go_op rfl (ev_st (i := 0) rfl rfl h rfl rfl rfl rfl rfl fun w h => ?_)
              refine go_op rfl (ev_st (i := 1) rfl rfl h rfl rfl rfl rfl rfl fun w h => ?_)
              exact go_fin (go_stop (G := Nat × Nat × Nat) (_, _, _) rfl ⟨rfl, rfl, rfl, rfl, rfl, rfl, rfl, rfl, rfl, trivial⟩ (Bk.out (i := 2) (j := 0) (k := 1) h rfl rfl rfl (by decide) (by decide) (by decide)) trivial)
            refine go_alt rfl (ev_al rfl h fun w h => ?_) ?_
            · refine go_alt rfl (ev_call rfl rfl h cM2 fun w h => ?_) ?_
              · refine go_alt rfl (ev_call rfl rfl h cM fun w h => ?_) ?_
                · refine go_op rfl (ev_al rfl h fun w h => ?_)
                  refine go_op rfl (ev_st (i := 2) rfl rfl h rfl rfl rfl rfl rfl fun w h => ?_)
                  refine go_op rfl (ev_st (i := 1) rfl rfl h rfl rfl rfl rfl rfl fun w h => ?_)
                  refine go_op rfl (ev_st (i := 0) rfl rfl h rfl rfl rfl rfl rfl fun w h => ?_)
                  exact go_fin (go_stop (G := Nat × Nat × Nat) (_, _, _) rfl ⟨rfl, rfl, rfl, rfl, rfl, rfl, rfl, rfl, rfl, trivial⟩ (Bk.out (i := 2) (j := 1) (k := 0) h rfl rfl rfl (by decide) (by decide) (by decide)) trivial)
                refine go_op rfl (ev_al rfl h fun w h => ?_)
                refine go_op rfl (ev_call rfl rfl h cM fun w h => ?_)
                refine go_op rfl (ev_st (i := 2) rfl rfl h rfl rfl rfl rfl rfl fun w h => ?_)
                refine go_op rfl (ev_st (i := 1) rfl rfl h rfl rfl rfl rfl rfl fun w h => ?_)
                refine go_op rfl (ev_st (i := 0) rfl rfl h rfl rfl rfl rfl rfl fun w h => ?_)
                exact go_fin (go_stop (G := Nat × Nat × Nat) (_, _, _) rfl ⟨rfl, rfl, rfl, rfl, rfl, rfl, rfl, rfl, rfl, trivial⟩ (Bk.out (i := 2) (j := 1) (k := 0) h rfl rfl rfl (by decide) (by decide) (by decide)) trivial)
              refine go_op rfl (ev_al rfl h fun w h => ?_)
              refine go_op rfl (ev_call rfl rfl h cM2 fun w h => ?_)
              refine go_op rfl (ev_call rfl rfl h cM fun w h => ?_)
              refine go_op rfl (ev_st (i := 2) rfl rfl h rfl rfl rfl rfl rfl fun w h => ?_)
              refine go_op rfl (ev_st (i := 1) rfl rfl h rfl rfl rfl rfl rfl fun w h => ?_)
              refine go_op rfl (ev_st (i := 0) rfl rfl h rfl rfl rfl rfl rfl fun w h => ?_)
              exact go_fin (go_stop (G := Nat × Nat × Nat) (_, _, _) rfl ⟨rfl, rfl, rfl, rfl, rfl, rfl, rfl, rfl, rfl, trivial⟩ (Bk.out (i := 2) (j := 1) (k := 0) h rfl rfl rfl (by decide) (by decide) (by decide)) trivial)
            refine go_op rfl (ev_al rfl h fun w h => ?_)
            refine go_alt rfl (ev_call rfl rfl h cM2 fun w h => ?_) ?_
            · refine go_alt rfl (ev_call rfl rfl h cM fun w h => ?_) ?_
              · refine go_op rfl (ev_al rfl h fun w h => ?_)
                refine go_op rfl (ev_st (i := 2) rfl rfl h rfl rfl rfl rfl rfl fun w h => ?_)
                refine go_op rfl (ev_st (i := 0) rfl rfl h rfl rfl rfl rfl rfl fun w h => ?_)
                refine go_op rfl (ev_st (i := 1) rfl rfl h rfl rfl rfl rfl rfl fun w h => ?_)
                exact go_fin (go_stop (G := Nat × Nat × Nat) (_, _, _) rfl ⟨rfl, rfl, rfl, rfl, rfl, rfl, rfl, rfl, rfl, trivial⟩ (Bk.out (i := 2) (j := 0) (k := 1) h rfl rfl rfl (by decide) (by decide) (by decide)) trivial)
              refine go_op rfl (ev_al rfl h fun w h => ?_)
              refine go_op rfl (ev_call rfl rfl h cM fun w h => ?_)
              refine go_op rfl (ev_st (i := 2) rfl rfl h rfl rfl rfl rfl rfl fun w h => ?_)
              refine go_op rfl (ev_st (i := 0) rfl rfl h rfl rfl rfl rfl rfl fun w h => ?_)
              refine go_op rfl (ev_st (i := 1) rfl rfl h rfl rfl rfl rfl rfl fun w h => ?_)
              exact go_fin (go_stop (G := Nat × Nat × Nat) (_, _, _) rfl ⟨rfl, rfl, rfl, rfl, rfl, rfl, rfl, rfl, rfl, trivial⟩ (Bk.out (i := 2) (j := 0) (k := 1) h rfl rfl rfl (by decide) (by decide) (by decide)) trivial)
            refine go_op rfl (ev_al rfl h fun w h => ?_)
            refine go_op rfl (ev_call rfl rfl h cM2 fun w h => ?_)
            refine go_op rfl (ev_call rfl rfl h cM fun w h => ?_)
            refine go_op rfl (ev_st (i := 2) rfl rfl h rfl rfl rfl rfl rfl fun w h => ?_)
            refine go_op rfl (ev_st (i := 0) rfl rfl h rfl rfl rfl rfl rfl fun w h => ?_)
            refine go_op rfl (ev_st (i := 1) rfl rfl h rfl rfl rfl rfl rfl fun w h => ?_)
            exact go_fin (go_stop (G := Nat × Nat × Nat) (_, _, _) rfl ⟨rfl, rfl, rfl, rfl, rfl, rfl, rfl, rfl, rfl, trivial⟩ (Bk.out (i := 2) (j := 0) (k := 1) h rfl rfl rfl (by decide) (by decide) (by decide)) trivial)
          refine go_alt rfl (ev_al rfl h fun w h => ?_) ?_
          · refine go_alt rfl (ev_call rfl rfl h cM fun w h => ?_) ?_
            · refine go_op rfl ?_
              refine sp ?_
              refine gol_nil ?_
              refine go_alt rfl (ev_call rfl rfl h cM2 fun w h => ?_) ?_
              · refine go_alt rfl (ev_call rfl rfl h cM fun w h => ?_) ?_
                · refine go_op rfl (ev_al rfl h fun w h => ?_)
                  refine go_op rfl (ev_st (i := 2) rfl rfl h rfl rfl rfl rfl rfl fun w h => ?_)
                  refine go_op rfl (ev_st (i := 1) rfl rfl h rfl rfl rfl rfl rfl fun w h => ?_)
                  refine go_op rfl (ev_st (i := 0) rfl rfl h rfl rfl rfl rfl rfl fun w h => ?_)
                  exact go_fin (go_stop (G := Nat × Nat × Nat) (_, _, _) rfl ⟨rfl, rfl, rfl, rfl, rfl, rfl, rfl, rfl, rfl, trivial⟩ (Bk.out (i := 2) (j := 1) (k := 0) h rfl rfl rfl (by decide) (by decide) (by decide)) trivial)
                refine go_op rfl (ev_al rfl h fun w h => ?_)
                refine go_op rfl (ev_call rfl rfl h cM fun w h => ?_)
                refine go_op rfl (ev_st (i := 2) rfl rfl h rfl rfl rfl rfl rfl fun w h => ?_)
                refine go_op rfl (ev_st (i := 1) rfl rfl h rfl rfl rfl rfl rfl fun w h => ?_)
                refine go_op rfl (ev_st (i := 0) rfl rfl h rfl rfl rfl rfl rfl fun w h => ?_)
                exact go_fin (go_stop (G := Nat × Nat × Nat) (_, _, _) rfl ⟨rfl, rfl, rfl, rfl, rfl, rfl, rfl, rfl, rfl, trivial⟩ (Bk.out (i := 2) (j := 1) (k := 0) h rfl rfl rfl (by decide) (by decide) (by decide)) trivial)
              refine go_op rfl (ev_al rfl h fun w h => ?_)
              refine go_op rfl (ev_call rfl rfl h cM2 fun w h => ?_)
              refine go_op rfl (ev_call rfl rfl h cM fun w h => ?_)
              refine go_op rfl (ev_st (i := 2) rfl rfl h rfl rfl rfl rfl rfl fun w h => ?_)
              refine go_op rfl (ev_st (i := 1) rfl rfl h rfl rfl rfl rfl rfl fun w h => ?_)
              refine go_op rfl (ev_st (i := 0) rfl rfl h rfl rfl rfl rfl rfl fun w h => ?_)
              exact go_fin (go_stop (G := Nat × Nat × Nat) (_, _, _) rfl ⟨rfl, rfl, rfl, rfl, rfl, rfl, rfl, rfl, rfl, trivial⟩ (Bk.out (i := 2) (j := 1) (k := 0) h rfl rfl rfl (by decide) (by decide) (by decide)) trivial)
            refine go_op rfl (ev_al rfl h fun w h => ?_)
            refine go_op rfl (ev_call rfl rfl h cM fun w h => ?_)
            refine go_op rfl ?_
            refine sp ?_
            refine gol_nil ?_
            refine go_op rfl (ev_call rfl rfl h cM2 fun w h => ?_)
            refine go_op rfl (ev_call rfl rfl h cM fun w h => ?_)
            refine go_op rfl (ev_st (i := 2) rfl rfl h rfl rfl rfl rfl rfl fun w h => ?_)
            refine go_op rfl (ev_st (i := 1) rfl rfl h rfl rfl rfl rfl rfl fun w h => ?_)
            refine go_op rfl (ev_st (i := 0) rfl rfl h rfl rfl rfl rfl rfl fun w h => ?_)
            exact go_fin (go_stop (G := Nat × Nat × Nat) (_, _, _) rfl ⟨rfl, rfl, rfl, rfl, rfl, rfl, rfl, rfl, rfl, trivial⟩ (Bk.out (i := 2) (j := 1) (k := 0) h rfl rfl rfl (by decide) (by decide) (by decide)) trivial)
          refine go_op rfl (ev_al rfl h fun w h => ?_)
          refine go_alt rfl (ev_call rfl rfl h cM fun w h => ?_) ?_
          · refine go_op rfl ?_
            refine sp ?_
            refine gol_nil ?_
            refine go_alt rfl (ev_call rfl rfl h cM2 fun w h => ?_) ?_
            · refine go_alt rfl (ev_call rfl rfl h cM fun w h => ?_) ?_
              · refine go_op rfl (ev_al rfl h fun w h => ?_)
                refine go_op rfl (ev_st (i := 2) rfl rfl h rfl rfl rfl rfl rfl fun w h => ?_)
                refine go_op rfl (ev_st (i := 0) rfl rfl h rfl rfl rfl rfl rfl fun w h => ?_)
                refine go_op rfl (ev_st (i := 1) rfl rfl h rfl rfl rfl rfl rfl fun w h => ?_)
                exact go_fin (go_stop (G := Nat × Nat × Nat) (_, _, _) rfl ⟨rfl, rfl, rfl, rfl, rfl, rfl, rfl, rfl, rfl, trivial⟩ (Bk.out (i := 2) (j := 0) (k := 1) h rfl rfl rfl (by decide) (by decide) (by decide)) trivial)
              refine go_op rfl (ev_al rfl h fun w h => ?_)
              refine go_op rfl (ev_call rfl rfl h cM fun w h => ?_)
              refine go_op rfl (ev_st (i := 2) rfl rfl h rfl rfl rfl rfl rfl fun w h => ?_)
              refine go_op rfl (ev_st (i := 0) rfl rfl h rfl rfl rfl rfl rfl fun w h => ?_)
              refine go_op rfl (ev_st (i := 1) rfl rfl h rfl rfl rfl rfl rfl fun w h => ?_)
              exact go_fin (go_stop (G := Nat × Nat × Nat) (_, _, _) rfl ⟨rfl, rfl, rfl, rfl, rfl, rfl, rfl, rfl, rfl, trivial⟩ (Bk.out (i := 2) (j := 0) (k := 1) h rfl rfl rfl (by decide) (by decide) (by decide)) trivial)
            refine go_op rfl (ev_al rfl h fun w h => ?_)
            refine go_op rfl (ev_call rfl rfl h cM2 fun w h => ?_)
            refine go_op rfl (ev_call rfl rfl h cM fun w h => ?_)
            refine go_op rfl (ev_st (i := 2) rfl rfl h rfl rfl rfl rfl rfl fun w h => ?_)
            refine go_op rfl (ev_st (i := 0) rfl rfl h rfl rfl rfl rfl rfl fun w h => ?_)
            refine go_op rfl (ev_st (i := 1) rfl rfl h rfl rfl rfl rfl rfl fun w h => ?_)
            exact go_fin (go_stop (G := Nat × Nat × Nat) (_, _, _) rfl ⟨rfl, rfl, rfl, rfl, rfl, rfl, rfl, rfl, rfl, trivial⟩ (Bk.out (i := 2) (j := 0) (k := 1) h rfl rfl rfl (by decide) (by decide) (by decide)) trivial)
          refine go_op rfl (ev_al rfl h fun w h => ?_)
          refine go_op rfl (ev_call rfl rfl h cM fun w h => ?_)
          refine go_op rfl ?_
          refine sp ?_
          refine gol_nil ?_
          refine go_op rfl (ev_call rfl rfl h cM2 fun w h => ?_)
          refine go_op rfl (ev_call rfl rfl h cM fun w h => ?_)
          refine go_op rfl (ev_st (i := 2) rfl rfl h rfl rfl rfl rfl rfl fun w h => ?_)
          refine go_op rfl (ev_st (i := 0) rfl rfl h rfl rfl rfl rfl rfl fun w h => ?_)
          refine go_op rfl (ev_st (i := 1) rfl rfl h rfl rfl rfl rfl rfl fun w h => ?_)
          exact go_fin (go_stop (G := Nat × Nat × Nat) (_, _, _) rfl ⟨rfl, rfl, rfl, rfl, rfl, rfl, rfl, rfl, rfl, trivial⟩ (Bk.out (i := 2) (j := 0) (k := 1) h rfl rfl rfl (by decide) (by decide) (by decide)) trivial)
        refine go_alt rfl (ev_al rfl h fun w h => ?_) ?_
        · refine go_alt rfl (ev_call rfl rfl h cM fun w h => ?_) ?_
          · refine go_op rfl ?_
            refine sp ?_
            refine gol_nil ?_
            refine go_alt rfl (ev_call rfl rfl h cM2 fun w h => ?_) ?_
            · refine go_alt rfl (ev_call rfl rfl h cM fun w h => ?_) ?_
              · refine go_alt rfl (ev_al rfl h fun w h => ?_) ?_
                · refine go_op rfl (ev_al rfl h fun w h => ?_)
                  refine go_op rfl (ev_st (i := 1) rfl rfl h rfl rfl rfl rfl rfl fun w h => ?_)
                  refine go_op rfl (ev_st (i := 2) rfl rfl h rfl rfl rfl rfl rfl fun w h => ?_)
                  refine go_op rfl (ev_st (i := 0) rfl rfl h rfl rfl rfl rfl rfl fun w h => ?_)
                  exact go_fin (go_stop (G := Nat × Nat × Nat) (_, _, _) rfl ⟨rfl, rfl, rfl, rfl, rfl, rfl, rfl, rfl, rfl, trivial⟩ (Bk.out (i := 1) (j := 2) (k := 0) h rfl rfl rfl (by decide) (by decide) (by decide)) trivial)
                refine go_op rfl (ev_al rfl h fun w h => ?_)
                refine go_op rfl (ev_al rfl h fun w h => ?_)
                refine go_op rfl (ev_st (i := 0) rfl rfl h rfl rfl rfl rfl rfl fun w h => ?_)
                refine go_op rfl (ev_st (i := 2) rfl rfl h rfl rfl rfl rfl rfl fun w h => ?_)
                refine go_op rfl (ev_st (i := 1) rfl rfl h rfl rfl rfl rfl rfl fun w h => ?_)
                exact go_fin (go_stop (G := Nat × Nat × Nat) (_, _, _) rfl ⟨rfl, rfl, rfl, rfl, rfl, rfl, rfl, rfl, rfl, trivial⟩ (Bk.out (i := 0) (j := 2) (k := 1) h rfl rfl rfl (by decide) (by decide) (by decide)) trivial)
              refine go_alt rfl (ev_al rfl h fun w h => ?_) ?_
              · refine go_alt rfl (ev_call rfl rfl h cM fun w h => ?_) ?_
                · refine go_op rfl (ev_al rfl h fun w h => ?_)
                  refine go_op rfl (ev_st (i := 1) rfl rfl h rfl rfl rfl rfl rfl fun w h => ?_)
                  refine go_op rfl (ev_st (i := 2) rfl rfl h rfl rfl rfl rfl rfl fun w h => ?_)
                  refine go_op rfl (ev_st (i := 0) rfl rfl h rfl rfl rfl rfl rfl fun w h => ?_)
                  exact go_fin (go_stop (G := Nat × Nat × Nat) (_, _, _) rfl ⟨rfl, rfl, rfl, rfl, rfl, rfl, rfl, rfl, rfl, trivial⟩ (Bk.out (i := 1) (j := 2) (k := 0) h rfl rfl rfl (by decide) (by decide) (by decide)) trivial)
                refine go_op rfl (ev_al rfl h fun w h => ?_)
                refine go_op rfl (ev_call rfl rfl h cM fun w h => ?_)
                refine go_op rfl (ev_st (i := 1) rfl rfl h rfl rfl rfl rfl rfl fun w h => ?_)
                refine go_op rfl (ev_st (i := 2) rfl rfl h rfl rfl rfl rfl rfl fun w h => ?_)
                refine go_op rfl (ev_st (i := 0) rfl rfl h rfl rfl rfl rfl rfl fun w h => ?_)
                exact go_fin (go_stop (G := Nat × Nat × Nat) (_, _, _) rfl ⟨rfl, rfl, rfl, rfl, rfl, rfl, rfl, rfl, rfl, trivial⟩ (Bk.out (i := 1) (j := 2) (k := 0) h rfl rfl rfl (by decide) (by decide) (by decide)) trivial)
              refine go_op rfl (ev_al rfl h fun w h => ?_)
              refine go_alt rfl (ev_call rfl rfl h cM fun w h => ?_) ?_
              · refine go_op rfl (ev_al rfl h fun w h => ?_)
                refine go_op rfl (ev_st (i := 0) rfl rfl h rfl rfl rfl rfl rfl fun w h => ?_)
                refine go_op rfl (ev_st (i := 2) rfl rfl h rfl rfl rfl rfl rfl fun w h => ?_)
                refine go_op rfl (ev_st (i := 1) rfl rfl h rfl rfl rfl rfl rfl fun w h => ?_)
                exact go_fin (go_stop (G := Nat × Nat × Nat) (_, _, _) rfl ⟨rfl, rfl, rfl, rfl, rfl, rfl, rfl, rfl, rfl, trivial⟩ (Bk.out (i := 0) (j := 2) (k := 1) h rfl rfl rfl (by decide) (by decide) (by decide)) trivial)
              refine go_op rfl (ev_al rfl h fun w h => ?_)
              refine go_op rfl (ev_call rfl rfl h cM fun w h => ?_)
              refine go_op rfl (ev_st (i := 0) rfl rfl h rfl rfl rfl rfl rfl fun w h => ?_)
              refine go_op rfl (ev_st (i := 2) rfl rfl h rfl rfl rfl rfl rfl fun w h => ?_)
              refine go_op rfl (ev_st (i := 1) rfl rfl h rfl rfl rfl rfl rfl fun w h => ?_)
              exact go_fin (go_stop (G := Nat × Nat × Nat) (_, _, _) rfl ⟨rfl, rfl, rfl, rfl, rfl, rfl, rfl, rfl, rfl, trivial⟩ (Bk.out (i := 0) (j := 2) (k := 1) h rfl rfl rfl (by decide) (by decide) (by decide)) trivial)
            refine go_alt rfl (ev_al rfl h fun w h => ?_) ?_
            · refine go_alt rfl (ev_call rfl rfl h cM2 fun w h => ?_) ?_
              · refine go_alt rfl (ev_call rfl rfl h cM fun w h => ?_) ?_
                · refine go_op rfl (ev_al rfl h fun w h => ?_)
                  refine go_op rfl (ev_st (i := 1) rfl rfl h rfl rfl rfl rfl rfl fun w h => ?_)
                  refine go_op rfl (ev_st (i := 2) rfl rfl h rfl rfl rfl rfl rfl fun w h => ?_)
                  refine go_op rfl (ev_st (i := 0) rfl rfl h rfl rfl rfl rfl rfl fun w h => ?_)
                  exact go_fin (go_stop (G := Nat × Nat × Nat) (_, _, _) rfl ⟨rfl, rfl, rfl, rfl, rfl, rfl, rfl, rfl, rfl, trivial⟩ (Bk.out (i := 1) (j := 2) (k := 0) h rfl rfl rfl (by decide) (by decide) (by decide)) trivial)
                refine go_op rfl (ev_al rfl h fun w h => ?_)
                refine go_op rfl (ev_call rfl rfl h cM fun w h => ?_)
                refine go_op rfl (ev_st (i := 1) rfl rfl h rfl rfl rfl rfl rfl fun w h => ?_)
                refine go_op rfl (ev_st (i := 2) rfl rfl h rfl rfl rfl rfl rfl fun w h => ?_)
                refine go_op rfl (ev_st (i := 0) rfl rfl h rfl rfl rfl rfl rfl fun w h => ?_)
                exact go_fin (go_stop (G := Nat × Nat × Nat) (_, _, _) rfl ⟨rfl, rfl, rfl, rfl, rfl, rfl, rfl, rfl, rfl, trivial⟩ (Bk.out (i := 1) (j := 2) (k := 0) h rfl rfl rfl (by decide) (by decide) (by decide)) trivial)
              refine go_op rfl (ev_al rfl h fun w h => ?_)
              refine go_op rfl (ev_call rfl rfl h cM2 fun w h => ?_)
              refine go_op rfl (ev_call rfl rfl h cM fun w h => ?_)
              refine go_op rfl (ev_st (i := 1) rfl rfl h rfl rfl rfl rfl rfl fun w h => ?_)
              refine go_op rfl (ev_st (i := 2) rfl rfl h rfl rfl rfl rfl rfl fun w h => ?_)
              refine go_op rfl (ev_st (i := 0) rfl rfl h rfl rfl rfl rfl rfl fun w h => ?_)
              exact go_fin (go_stop (G := Nat × Nat × Nat) (_, _, _) rfl ⟨rfl, rfl, rfl, rfl, rfl, rfl, rfl, rfl, rfl, trivial⟩ (Bk.out (i := 1) (j := 2) (k := 0) h rfl rfl rfl (by decide) (by decide) (by decide)) trivial)
            refine go_op rfl (ev_al rfl h fun w h => ?_)
            refine go_alt rfl (ev_call rfl rfl h cM2 fun w h => ?_) ?_
            · refine go_alt rfl (ev_call rfl rfl h cM fun w h => ?_) ?_
              · refine go_op rfl (ev_al rfl h fun w h => ?_)
                refine go_op rfl (ev_st (i := 0) rfl rfl h rfl rfl rfl rfl rfl fun w h => ?_)
                refine go_op rfl (ev_st (i := 2) rfl rfl h rfl rfl rfl rfl rfl fun w h => ?_)
                refine go_op rfl (ev_st (i := 1) rfl rfl h rfl rfl rfl rfl rfl fun w h => ?_)
                exact go_fin (go_stop (G := Nat × Nat × Nat) (_, _, _) rfl ⟨rfl, rfl, rfl, rfl, rfl, rfl, rfl, rfl, rfl, trivial⟩ (Bk.out (i := 0) (j := 2) (k := 1) h rfl rfl rfl (by decide) (by decide) (by decide)) trivial)
              refine go_op rfl (ev_al rfl h fun w h => ?_)
              refine go_op rfl (ev_call rfl rfl h cM fun w h => ?_)
              refine go_op rfl (ev_st (i := 0) rfl rfl h rfl rfl rfl rfl rfl fun w h => ?_)
              refine go_op rfl (ev_st (i := 2) rfl rfl h rfl rfl rfl rfl rfl fun w h => ?_)
              refine go_op rfl (ev_st (i := 1) rfl rfl h rfl rfl rfl rfl rfl fun w h => ?_)
              exact go_fin (go_stop (G := Nat × Nat × Nat) (_, _, _) rfl ⟨rfl, rfl, rfl, rfl, rfl, rfl, rfl, rfl, rfl, trivial⟩ (Bk.out (i := 0) (j := 2) (k := 1) h rfl rfl rfl (by decide) (by decide) (by decide)) trivial)
            refine go_op rfl (ev_al rfl h fun w h => ?_)
            refine go_op rfl (ev_call rfl rfl h cM2 fun w h => ?_)
            refine go_op rfl (ev_call rfl rfl h cM fun w h => ?_)
            refine go_op rfl (ev_st (i := 0) rfl rfl h rfl rfl rfl rfl rfl fun w h => ?_)
            refine go_op rfl (ev_st (i := 2) rfl rfl h rfl rfl rfl rfl rfl fun w h => ?_)
            refine go_op rfl (ev_st (i := 1) rfl rfl h rfl rfl rfl rfl rfl fun w h => ?_)
            exact go_fin (go_stop (G := Nat × Nat × Nat) (_, _, _) rfl ⟨rfl, rfl, rfl, rfl, rfl, rfl, rfl, rfl, rfl, trivial⟩ (Bk.out (i := 0) (j := 2) (k := 1) h rfl rfl rfl (by decide) (by decide) (by decide)) trivial)
          refine go_alt rfl (ev_al rfl h fun w h => ?_) ?_
          · refine go_alt rfl (ev_call rfl rfl h cM fun w h => ?_) ?_
            · refine go_op rfl ?_
              refine sp ?_
              refine gol_nil ?_
              refine go_alt rfl (ev_call rfl rfl h cM2 fun w h => ?_) ?_
              · refine go_alt rfl (ev_call rfl rfl h cM fun w h => ?_) ?_
                · refine go_op rfl (ev_al rfl h fun w h => ?_)
                  refine go_op rfl (ev_st (i := 1) rfl rfl h rfl rfl rfl rfl rfl fun w h => ?_)
                  refine go_op rfl (ev_st (i := 2) rfl rfl h rfl rfl rfl rfl rfl fun w h => ?_)
                  refine go_op rfl (ev_st (i := 0) rfl rfl h rfl rfl rfl rfl rfl fun w h => ?_)
                  exact go_fin (go_stop (G := Nat × Nat × Nat) (_, _, _) rfl ⟨rfl, rfl, rfl, rfl, rfl, rfl, rfl, rfl, rfl, trivial⟩ (Bk.out (i := 1) (j := 2) (k := 0) h rfl rfl rfl (by decide) (by decide) (by decide)) trivial)
                refine go_op rfl (ev_al rfl h fun w h => ?_)
                refine go_op rfl (ev_call rfl rfl h cM fun w h => ?_)
                refine go_op rfl (ev_st (i := 1) rfl rfl h rfl rfl rfl rfl rfl fun w h => ?_)
                refine go_op rfl (ev_st (i := 2) rfl rfl h rfl rfl rfl rfl rfl fun w h => ?_)
                refine go_op rfl (ev_st (i := 0) rfl rfl h rfl rfl rfl rfl rfl fun w h => ?_)
                exact go_fin (go_stop (G := Nat × Nat × Nat) (_, _, _) rfl ⟨rfl, rfl, rfl, rfl, rfl, rfl, rfl, rfl, rfl, trivial⟩ (Bk.out (i := 1) (j := 2) (k := 0) h rfl rfl rfl (by decide) (by decide) (by decide)) trivial)
              refine go_op rfl (ev_al rfl h fun w h => ?_)
              refine go_op rfl (ev_call rfl rfl h cM2 fun w h => ?_)
              refine go_op rfl (ev_call rfl rfl h cM fun w h => ?_)
              refine go_op rfl (ev_st (i := 1) rfl rfl h rfl rfl rfl rfl rfl fun w h => ?_)
              refine go_op rfl (ev_st (i := 2) rfl rfl h rfl rfl rfl rfl rfl fun w h => ?_)
              refine go_op rfl (ev_st (i := 0) rfl rfl h rfl rfl rfl rfl rfl fun w h => ?_)
              exact go_fin (go_stop (G := Nat × Nat × Nat) (_, _, _) rfl ⟨rfl, rfl, rfl, rfl, rfl, rfl, rfl, rfl, rfl, trivial⟩ (Bk.out (i := 1) (j := 2) (k := 0) h rfl rfl rfl (by decide) (by decide) (by decide)) trivial)
            refine go_op rfl (ev_al rfl h fun w h => ?_)
            refine go_op rfl (ev_call rfl rfl h cM fun w h => ?_)
            refine go_op rfl ?_
            refine sp ?_
            refine gol_nil ?_
            refine go_op rfl (ev_call rfl rfl h cM2 fun w h => ?_)
            refine go_op rfl (ev_call rfl rfl h cM fun w h => ?_)
            refine go_op rfl (ev_st (i := 1) rfl rfl h rfl rfl rfl rfl rfl fun w h => ?_)
            refine go_op rfl (ev_st (i := 2) rfl rfl h rfl rfl rfl rfl rfl fun w h => ?_)
            refine go_op rfl (ev_st (i := 0) rfl rfl h rfl rfl rfl rfl rfl fun w h => ?_)
            exact go_fin (go_stop (G := Nat × Nat × Nat) (_, _, _) rfl ⟨rfl, rfl, rfl, rfl, rfl, rfl, rfl, rfl, rfl, trivial⟩ (Bk.out (i := 1) (j := 2) (k := 0) h rfl rfl rfl (by decide) (by decide) (by decide)) trivial)
          refine go_op rfl (ev_al rfl h fun w h => ?_)
          refine go_alt rfl (ev_call rfl rfl h cM fun w h => ?_) ?_
          · refine go_op rfl ?_
            refine sp ?_
            refine gol_nil ?_
            refine go_alt rfl (ev_call rfl rfl h cM2 fun w h => ?_) ?_
            · refine go_alt rfl (ev_call rfl rfl h cM fun w h => ?_) ?_
              · refine go_op rfl (ev_al rfl h fun w h => ?_)
                refine go_op rfl (ev_st (i := 0) rfl rfl h rfl rfl rfl rfl rfl fun w h => ?_)
                refine go_op rfl (ev_st (i := 2) rfl rfl h rfl rfl rfl rfl rfl fun w h => ?_)
                refine go_op rfl (ev_st (i := 1) rfl rfl h rfl rfl rfl rfl rfl fun w h => ?_)
                exact go_fin (go_stop (G := Nat × Nat × Nat) (_, _, _) rfl ⟨rfl, rfl, rfl, rfl, rfl, rfl, rfl, rfl, rfl, trivial⟩ (Bk.out (i := 0) (j := 2) (k := 1) h rfl rfl rfl (by decide) (by decide) (by decide)) trivial)
              refine go_op rfl (ev_al rfl h fun w h => ?_)
              refine go_op rfl (ev_call rfl rfl h cM fun w h => ?_)
              refine go_op rfl (ev_st (i := 0) rfl rfl h rfl rfl rfl rfl rfl fun w h => ?_)
              refine go_op rfl (ev_st (i := 2) rfl rfl h rfl rfl rfl rfl rfl fun w h => ?_)
              refine go_op rfl (ev_st (i := 1) rfl rfl h rfl rfl rfl rfl rfl fun w h => ?_)
              exact go_fin (go_stop (G := Nat × Nat × Nat) (_, _, _) rfl ⟨rfl, rfl, rfl, rfl, rfl, rfl, rfl, rfl, rfl, trivial⟩ (Bk.out (i := 0) (j := 2) (k := 1) h rfl rfl rfl (by decide) (by decide) (by decide)) trivial)
            refine go_op rfl (ev_al rfl h fun w h => ?_)
            refine go_op rfl (ev_call rfl rfl h cM2 fun w h => ?_)
            refine go_op rfl (ev_call rfl rfl h cM fun w h => ?_)
            refine go_op rfl (ev_st (i := 0) rfl rfl h rfl rfl rfl rfl rfl fun w h => ?_)
            refine go_op rfl (ev_st (i := 2) rfl rfl h rfl rfl rfl rfl rfl fun w h => ?_)
            refine go_op rfl (ev_st (i := 1) rfl rfl h rfl rfl rfl rfl rfl fun w h => ?_)
            exact go_fin (go_stop (G := Nat × Nat × Nat) (_, _, _) rfl ⟨rfl, rfl, rfl, rfl, rfl, rfl, rfl, rfl, rfl, trivial⟩ (Bk.out (i := 0) (j := 2) (k := 1) h rfl rfl rfl (by decide) (by decide) (by decide)) trivial)
          refine go_op rfl (ev_al rfl h fun w h => ?_)
          refine go_op rfl (ev_call rfl rfl h cM fun w h => ?_)
          refine go_op rfl ?_
          refine sp ?_
          refine gol_nil ?_
          refine go_op rfl (ev_call rfl rfl h cM2 fun w h => ?_)
          refine go_op rfl (ev_call rfl rfl h cM fun w h => ?_)
          refine go_op rfl (ev_st (i := 0) rfl rfl h rfl rfl rfl rfl rfl fun w h => ?_)
          refine go_op rfl (ev_st (i := 2) rfl rfl h rfl rfl rfl rfl rfl fun w h => ?_)
          refine go_op rfl (ev_st (i := 1) rfl rfl h rfl rfl rfl rfl rfl fun w h => ?_)
          exact go_fin (go_stop (G := Nat × Nat × Nat) (_, _, _) rfl ⟨rfl, rfl, rfl, rfl, rfl, rfl, rfl, rfl, rfl, trivial⟩ (Bk.out (i := 0) (j := 2) (k := 1) h rfl rfl rfl (by decide) (by decide) (by decide)) trivial)
        refine go_op rfl (ev_al rfl h fun w h => ?_)
        refine go_alt rfl (ev_call rfl rfl h cM fun w h => ?_) ?_
        · refine go_op rfl ?_
          refine sp ?_
          refine gol_nil ?_
          refine go_alt rfl (ev_call rfl rfl h cM2 fun w h => ?_) ?_
          · refine go_alt rfl (ev_call rfl rfl h cM fun w h => ?_) ?_
            · refine go_alt rfl (ev_al rfl h fun w h => ?_) ?_
              · refine go_op rfl (ev_al rfl h fun w h => ?_)
                refine go_op rfl (ev_st (i := 1) rfl rfl h rfl rfl rfl rfl rfl fun w h => ?_)
                refine go_op rfl (ev_st (i := 0) rfl rfl h rfl rfl rfl rfl rfl fun w h => ?_)
                refine go_op rfl (ev_st (i := 2) rfl rfl h rfl rfl rfl rfl rfl fun w h => ?_)
                exact go_fin (go_stop (G := Nat × Nat × Nat) (_, _, _) rfl ⟨rfl, rfl, rfl, rfl, rfl, rfl, rfl, rfl, rfl, trivial⟩ (Bk.out (i := 1) (j := 0) (k := 2) h rfl rfl rfl (by decide) (by decide) (by decide)) trivial)
              refine go_op rfl (ev_al rfl h fun w h => ?_)
              refine go_op rfl (ev_al rfl h fun w h => ?_)
              refine go_op rfl (ev_st (i := 0) rfl rfl h rfl rfl rfl rfl rfl fun w h => ?_)
              refine go_op rfl (ev_st (i := 1) rfl rfl h rfl rfl rfl rfl rfl fun w h => ?_)
              refine go_op rfl (ev_st (i := 2) rfl rfl h rfl rfl rfl rfl rfl fun w h => ?_)
              exact go_fin (go_stop (G := Nat × Nat × Nat) (_, _, _) rfl ⟨rfl, rfl, rfl, rfl, rfl, rfl, rfl, rfl, rfl, trivial⟩ (Bk.out (i := 0) (j := 1) (k := 2) h rfl rfl rfl (by decide) (by decide) (by decide)) trivial)
            refine go_alt rfl (ev_al rfl h fun w h => ?_) ?_
            · refine go_alt rfl (ev_call rfl rfl h cM fun w h => ?_) ?_
              · refine go_op rfl (ev_al rfl h fun w h => ?_)
                refine go_op rfl (ev_st (i := 1) rfl rfl h rfl rfl rfl rfl rfl fun w h => ?_)
                refine go_op rfl (ev_st (i := 0) rfl rfl h rfl rfl rfl rfl rfl fun w h => ?_)
                refine go_op rfl (ev_st (i := 2) rfl rfl h rfl rfl rfl rfl rfl fun w h => ?_)
                exact go_fin (go_stop (G := Nat × Nat × Nat) (_, _, _) rfl ⟨rfl, rfl, rfl, rfl, rfl, rfl, rfl, rfl, rfl, trivial⟩ (Bk.out (i := 1) (j := 0) (k := 2) h rfl rfl rfl (by decide) (by decide) (by decide)) trivial)
              refine go_op rfl (ev_al rfl h fun w h => ?_)
              refine go_op rfl (ev_call rfl rfl h cM fun w h => ?_)
              refine go_op rfl (ev_st (i := 1) rfl rfl h rfl rfl rfl rfl rfl fun w h => ?_)
              refine go_op rfl (ev_st (i := 0) rfl rfl h rfl rfl rfl rfl rfl fun w h => ?_)
              refine go_op rfl (ev_st (i := 2) rfl rfl h rfl rfl rfl rfl rfl fun w h => ?_)
              exact go_fin (go_stop (G := Nat × Nat × Nat) (_, _, _) rfl ⟨rfl, rfl, rfl, rfl, rfl, rfl, rfl, rfl, rfl, trivial⟩ (Bk.out (i := 1) (j := 0) (k := 2) h rfl rfl rfl (by decide) (by decide) (by decide)) trivial)
            refine go_op rfl (ev_al rfl h fun w h => ?_)
            refine go_alt rfl (ev_call rfl rfl h cM fun w h => ?_) ?_
            · refine go_op rfl (ev_al rfl h fun w h => ?_)
              refine go_op rfl (ev_st (i := 0) rfl rfl h rfl rfl rfl rfl rfl fun w h => ?_)
              refine go_op rfl (ev_st (i := 1) rfl rfl h rfl rfl rfl rfl rfl fun w h => ?_)
              refine go_op rfl (ev_st (i := 2) rfl rfl h rfl rfl rfl rfl rfl fun w h => ?_)
              exact go_fin (go_stop (G := Nat × Nat × Nat) (_, _, _) rfl ⟨rfl, rfl, rfl, rfl, rfl, rfl, rfl, rfl, rfl, trivial⟩ (Bk.out (i := 0) (j := 1) (k := 2) h rfl rfl rfl (by decide) (by decide) (by decide)) trivial)
            refine go_op rfl (ev_al rfl h fun w h => ?_)
            refine go_op rfl (ev_call rfl rfl h cM fun w h => ?_)
            refine go_op rfl (ev_st (i := 0) rfl rfl h rfl rfl rfl rfl rfl fun w h => ?_)
            refine go_op rfl (ev_st (i := 1) rfl rfl h rfl rfl rfl rfl rfl fun w h => ?_)
            refine go_op rfl (ev_st (i := 2) rfl rfl h rfl rfl rfl rfl rfl fun w h => ?_)
            exact go_fin (go_stop (G := Nat × Nat × Nat) (_, _, _) rfl ⟨rfl, rfl, rfl, rfl, rfl, rfl, rfl, rfl, rfl, trivial⟩ (Bk.out (i := 0) (j := 1) (k := 2) h rfl rfl rfl (by decide) (by decide) (by decide)) trivial)
          refine go_alt rfl (ev_al rfl h fun w h => ?_) ?_
          · refine go_alt rfl (ev_call rfl rfl h cM2 fun w h => ?_) ?_
            · refine go_alt rfl (ev_call rfl rfl h cM fun w h => ?_) ?_
              · refine go_op rfl (ev_al rfl h fun w h => ?_)
                refine go_op rfl (ev_st (i := 1) rfl rfl h rfl rfl rfl rfl rfl fun w h => ?_)
                refine go_op rfl (ev_st (i := 0) rfl rfl h rfl rfl rfl rfl rfl fun w h => ?_)
                refine go_op rfl (ev_st (i := 2) rfl rfl h rfl rfl rfl rfl rfl fun w h => ?_)
                exact go_fin (go_stop (G := Nat × Nat × Nat) (_, _, _) rfl ⟨rfl, rfl, rfl, rfl, rfl, rfl, rfl, rfl, rfl, trivial⟩ (Bk.out (i := 1) (j := 0) (k := 2) h rfl rfl rfl (by decide) (by decide) (by decide)) trivial)
              refine go_op rfl (ev_al rfl h fun w h => ?_)
              refine go_op rfl (ev_call rfl rfl h cM fun w h => ?_)
              refine go_op rfl (ev_st (i := 1) rfl rfl h rfl rfl rfl rfl rfl fun w h => ?_)
              refine go_op rfl (ev_st (i := 0) rfl rfl h rfl rfl rfl rfl rfl fun w h => ?_)
              refine go_op rfl (ev_st (i := 2) rfl rfl h rfl rfl rfl rfl rfl fun w h => ?_)
              exact go_fin (go_stop (G := Nat × Nat × Nat) (_, _, _) rfl ⟨rfl, rfl, rfl, rfl, rfl, rfl, rfl, rfl, rfl, trivial⟩ (Bk.out (i := 1) (j := 0) (k := 2) h rfl rfl rfl (by decide) (by decide) (by decide)) trivial)
            refine go_op rfl (ev_al rfl h fun w h => ?_)
            refine go_op rfl (ev_call rfl rfl h cM2 fun w h => ?_)
            refine go_op rfl (ev_call rfl rfl h cM fun w h => ?_)
            refine go_op rfl (ev_st (i := 1) rfl rfl h rfl rfl rfl rfl rfl fun w h => ?_)
            refine go_op rfl (ev_st (i := 0) rfl rfl h rfl rfl rfl rfl rfl fun w h => ?_)
            refine go_op rfl (ev_st (i := 2) rfl rfl h rfl rfl rfl rfl rfl fun w h => ?_)
            exact go_fin (go_stop (G := Nat × Nat × Nat) (_, _, _) rfl ⟨rfl, rfl, rfl, rfl, rfl, rfl, rfl, rfl, rfl, trivial⟩ (Bk.out (i := 1) (j := 0) (k := 2) h rfl rfl rfl (by decide) (by decide) (by decide)) trivial)
          refine go_op rfl (ev_al rfl h fun w h => ?_)
          refine go_alt rfl (ev_call rfl rfl h cM2 fun w h => ?_) ?_
          · refine go_alt rfl (ev_call rfl rfl h cM fun w h => ?_) ?_
            · refine go_op rfl (ev_al rfl h fun w h => ?_)
              refine go_op rfl (ev_st (i := 0) rfl rfl h rfl rfl rfl rfl rfl fun w h => ?_)
              refine go_op rfl (ev_st (i := 1) rfl rfl h rfl rfl rfl rfl rfl fun w h => ?_)
              refine go_op rfl (ev_st (i := 2) rfl rfl h rfl rfl rfl rfl rfl fun w h => ?_)
              exact go_fin (go_stop (G := Nat × Nat × Nat) (_, _, _) rfl ⟨rfl, rfl, rfl, rfl, rfl, rfl, rfl, rfl, rfl, trivial⟩ (Bk.out (i := 0) (j := 1) (k := 2) h rfl rfl rfl (by decide) (by decide) (by decide)) trivial)
            refine go_op rfl (ev_al rfl h fun w h => ?_)
            refine go_op rfl (ev_call rfl rfl h cM fun w h => ?_)
            refine go_op rfl (ev_st (i := 0) rfl rfl h rfl rfl rfl rfl rfl fun w h => ?_)
            refine go_op rfl (ev_st (i := 1) rfl rfl h rfl rfl rfl rfl rfl fun w h => ?_)
            refine go_op rfl (ev_st (i := 2) rfl rfl h rfl rfl rfl rfl rfl fun w h => ?_)
            exact go_fin (go_stop (G := Nat × Nat × Nat) (_, _, _) rfl ⟨rfl, rfl, rfl, rfl, rfl, rfl, rfl, rfl, rfl, trivial⟩ (Bk.out (i := 0) (j := 1) (k := 2) h rfl rfl rfl (by decide) (by decide) (by decide)) trivial)
          refine go_op rfl (ev_al rfl h fun w h => ?_)
          refine go_op rfl (ev_call rfl rfl h cM2 fun w h => ?_)
          refine go_op rfl (ev_call rfl rfl h cM fun w h => ?_)
          refine go_op rfl (ev_st (i := 0) rfl rfl h rfl rfl rfl rfl rfl fun w h => ?_)
          refine go_op rfl (ev_st (i := 1) rfl rfl h rfl rfl rfl rfl rfl fun w h => ?_)
          refine go_op rfl (ev_st (i := 2) rfl rfl h rfl rfl rfl rfl rfl fun w h => ?_)
          exact go_fin (go_stop (G := Nat × Nat × Nat) (_, _, _) rfl ⟨rfl, rfl, rfl, rfl, rfl, rfl, rfl, rfl, rfl, trivial⟩ (Bk.out (i := 0) (j := 1) (k := 2) h rfl rfl rfl (by decide) (by decide) (by decide)) trivial)
        refine go_alt rfl (ev_al rfl h fun w h => ?_) ?_
        · refine go_alt rfl (ev_call rfl rfl h cM fun w h => ?_) ?_
          · refine go_op rfl ?_
            refine sp ?_
            refine gol_nil ?_
            refine go_alt rfl (ev_call rfl rfl h cM2 fun w h => ?_) ?_
            · refine go_alt rfl (ev_call rfl rfl h cM fun w h => ?_) ?_
              · refine go_op rfl (ev_al rfl h fun w h => ?_)
                refine go_op rfl (ev_st (i := 1) rfl rfl h rfl rfl rfl rfl rfl fun w h => ?_)
                refine go_op rfl (ev_st (i := 0) rfl rfl h rfl rfl rfl rfl rfl fun w h => ?_)
                refine go_op rfl (ev_st (i := 2) rfl rfl h rfl rfl rfl rfl rfl fun w h => ?_)
                exact go_fin (go_stop (G := Nat × Nat × Nat) (_, _, _) rfl ⟨rfl, rfl, rfl, rfl, rfl, rfl, rfl, rfl, rfl, trivial⟩ (Bk.out (i := 1) (j := 0) (k := 2) h rfl rfl rfl (by decide) (by decide) (by decide)) trivial)
              refine go_op rfl (ev_al rfl h fun w h => ?_)
              refine go_op rfl (ev_call rfl rfl h cM fun w h => ?_)
              refine go_op rfl (ev_st (i := 1) rfl rfl h rfl rfl rfl rfl rfl fun w h => ?_)
              refine go_op rfl (ev_st (i := 0) rfl rfl h rfl rfl rfl rfl rfl fun w h => ?_)
              refine go_op rfl (ev_st (i := 2) rfl rfl h rfl rfl rfl rfl rfl fun w h => ?_)
              exact go_fin (go_stop (G := Nat × Nat × Nat) (_, _, _) rfl ⟨rfl, rfl, rfl, rfl, rfl, rfl, rfl, rfl, rfl, trivial⟩ (Bk.out (i := 1) (j := 0) (k := 2) h rfl rfl rfl (by decide) (by decide) (by decide)) trivial)
            refine go_op rfl (ev_al rfl h fun w h => ?_)
            refine go_op rfl (ev_call rfl rfl h cM2 fun w h => ?_)
            refine go_op rfl (ev_call rfl rfl h cM fun w h => ?_)
            refine go_op rfl (ev_st (i := 1) rfl rfl h rfl rfl rfl rfl rfl fun w h => ?_)
            refine go_op rfl (ev_st (i := 0) rfl rfl h rfl rfl rfl rfl rfl fun w h => ?_)
            refine go_op rfl (ev_st (i := 2) rfl rfl h rfl rfl rfl rfl rfl fun w h => ?_)
            exact go_fin (go_stop (G := Nat × Nat × Nat) (_, _, _) rfl ⟨rfl, rfl, rfl, rfl, rfl, rfl, rfl, rfl, rfl, trivial⟩ (Bk.out (i := 1) (j := 0) (k := 2) h rfl rfl rfl (by decide) (by decide) (by decide)) trivial)
          refine go_op rfl (ev_al rfl h fun w h => ?_)
          refine go_op rfl (ev_call rfl rfl h cM fun w h => ?_)
          refine go_op rfl ?_
          refine sp ?_
          refine gol_nil ?_
          refine go_op rfl (ev_call rfl rfl h cM2 fun w h => ?_)
          refine go_op rfl (ev_call rfl rfl h cM fun w h => ?_)
          refine go_op rfl (ev_st (i := 1) rfl rfl h rfl rfl rfl rfl rfl fun w h => ?_)
          refine go_op rfl (ev_st (i := 0) rfl rfl h rfl rfl rfl rfl rfl fun w h => ?_)
          refine go_op rfl (ev_st (i := 2) rfl rfl h rfl rfl rfl rfl rfl fun w h => ?_)
          exact go_fin (go_stop (G := Nat × Nat × Nat) (_, _, _) rfl ⟨rfl, rfl, rfl, rfl, rfl, rfl, rfl, rfl, rfl, trivial⟩ (Bk.out (i := 1) (j := 0) (k := 2) h rfl rfl rfl (by decide) (by decide) (by decide)) trivial)
        refine go_op rfl (ev_al rfl h fun w h => ?_)
        refine go_alt rfl (ev_call rfl rfl h cM fun w h => ?_) ?_
        · refine go_op rfl ?_
          refine sp ?_
          refine gol_nil ?_
          refine go_alt rfl (ev_call rfl rfl h cM2 fun w h => ?_) ?_
          · refine go_alt rfl (ev_call rfl rfl h cM fun w h => ?_) ?_
            · refine go_op rfl (ev_al rfl h fun w h => ?_)
              refine go_op rfl (ev_st (i := 0) rfl rfl h rfl rfl rfl rfl rfl fun w h => ?_)
              refine go_op rfl (ev_st (i := 1) rfl rfl h rfl rfl rfl rfl rfl fun w h => ?_)
              refine go_op rfl (ev_st (i := 2) rfl rfl h rfl rfl rfl rfl rfl fun w h => ?_)
              exact go_fin (go_stop (G := Nat × Nat × Nat) (_, _, _) rfl ⟨rfl, rfl, rfl, rfl, rfl, rfl, rfl, rfl, rfl, trivial⟩ (Bk.out (i := 0) (j := 1) (k := 2) h rfl rfl rfl (by decide) (by decide) (by decide)) trivial)
            refine go_op rfl (ev_al rfl h fun w h => ?_)
            refine go_op rfl (ev_call rfl rfl h cM fun w h => ?_)
            refine go_op rfl (ev_st (i := 0) rfl rfl h rfl rfl rfl rfl rfl fun w h => ?_)
            refine go_op rfl (ev_st (i := 1) rfl rfl h rfl rfl rfl rfl rfl fun w h => ?_)
            refine go_op rfl (ev_st (i := 2) rfl rfl h rfl rfl rfl rfl rfl fun w h => ?_)
            exact go_fin (go_stop (G := Nat × Nat × Nat) (_, _, _) rfl ⟨rfl, rfl, rfl, rfl, rfl, rfl, rfl, rfl, rfl, trivial⟩ (Bk.out (i := 0) (j := 1) (k := 2) h rfl rfl rfl (by decide) (by decide) (by decide)) trivial)
          refine go_op rfl (ev_al rfl h fun w h => ?_)
          refine go_op rfl (ev_call rfl rfl h cM2 fun w h => ?_)
          refine go_op rfl (ev_call rfl rfl h cM fun w h => ?_)
          refine go_op rfl (ev_st (i := 0) rfl rfl h rfl rfl rfl rfl rfl fun w h => ?_)
          refine go_op rfl (ev_st (i := 1) rfl rfl h rfl rfl rfl rfl rfl fun w h => ?_)
          refine go_op rfl (ev_st (i := 2) rfl rfl h rfl rfl rfl rfl rfl fun w h => ?_)
          exact go_fin (go_stop (G := Nat × Nat × Nat) (_, _, _) rfl ⟨rfl, rfl, rfl, rfl, rfl, rfl, rfl, rfl, rfl, trivial⟩ (Bk.out (i := 0) (j := 1) (k := 2) h rfl rfl rfl (by decide) (by decide) (by decide)) trivial)
        refine go_op rfl (ev_al rfl h fun w h => ?_)
        refine go_op rfl (ev_call rfl rfl h cM fun w h => ?_)
        refine go_op rfl ?_
        refine sp ?_
        refine gol_nil ?_
        refine go_op rfl (ev_call rfl rfl h cM2 fun w h => ?_)
        refine go_op rfl (ev_call rfl rfl h cM fun w h => ?_)
        refine go_op rfl (ev_st (i := 0) rfl rfl h rfl rfl rfl rfl rfl fun w h => ?_)
        refine go_op rfl (ev_st (i := 1) rfl rfl h rfl rfl rfl rfl rfl fun w h => ?_)
        refine go_op rfl (ev_st (i := 2) rfl rfl h rfl rfl rfl rfl rfl fun w h => ?_)
        exact go_fin (go_stop (G := Nat × Nat × Nat) (_, _, _) rfl ⟨rfl, rfl, rfl, rfl, rfl, rfl, rfl, rfl, rfl, trivial⟩ (Bk.out (i := 0) (j := 1) (k := 2) h rfl rfl rfl (by decide) (by decide) (by decide)) trivial)
      rintro ⟨b20, b21, b22⟩ w12 ⟨hqa12, hqb12, hqc12, hx12, le20, le21, le22, ne1, ne2, ne3⟩
      have ha12 := ha11.ext hx12
      have hn12 := hn11.ext hx12
      have hqX12 := hqX11.ext hx12
      have hz12 := hz11.trans hx12
      have ltx := hqX11.lt
      have ltd := ha11.lt
      have ltn := hn11.lt
      have nx0 : bx ≠ b20 := by omega
      have nx1 : bx ≠ b21 := by omega
      have nx2 : bx ≠ b22 := by omega
      have nd0 : bd ≠ b20 := by omega
      have nd1 : bd ≠ b21 := by omega
      have nd2 : bd ≠ b22 := by omega
      have nn0 : bn ≠ b20 := by omega
      have nn1 : bn ≠ b21 := by omega
      have nn2 : bn ≠ b22 := by omega
      repeat (first | refine sp ?_ | (refine is_load ?_; refine ld ?_) | (refine is_store ?_; refine sr ?_) | (refine is_alloc ?_; refine al ?_) | (refine is_box ?_; refine bx ?_) | (refine isl_load ?_; refine ldl ?_) | (refine isl_store ?_; refine srl ?_) | (refine isl_alloc ?_; refine all' ?_) | (refine isl_box ?_; refine bxl ?_))
      refine dr Try.follows ?_
      repeat (first | refine sp ?_ | (refine is_load ?_; refine ld ?_) | (refine is_store ?_; refine sr ?_) | (refine is_alloc ?_; refine al ?_) | (refine is_box ?_; refine bx ?_) | (refine isl_load ?_; refine ldl ?_) | (refine isl_store ?_; refine srl ?_) | (refine isl_alloc ?_; refine all' ?_) | (refine isl_box ?_; refine bxl ?_))
      have hz12s := hz11.trans hx12
      have hs119 := hz11.size
      have ne1' : ¬ b21 = b20 := fun e => ne1 e.symm
      have ne3' : ¬ b22 = b21 := fun e => ne3 e.symm
      have ne2' : ¬ b22 = b20 := fun e => ne2 e.symm
      have f12 : Fr (fun b => b = b20 ∨ b = b21 ∨ b = b22) w12 w12 := Fr.refl _ _
      refine go_name (F := fun y => At y bd [.slice s1 A.dump.slots.length c1, .slice s2 A.dump.free.length c2] 31 ∧ At y bn [.slice s3 R.dump.slots.length c3, .slice s4 R.dump.free.length c4] 31 ∧ At y b20 [.int .i64 X.key, .int .i64 X.val, .int .u32 (X.left : Int), .int .u32 (X.right : Int), .int .i64 X.size, .int .i64 X.sum, .int .i64 X.mn, .int .i64 X.mx] 41 ∧ At y b21 [.int .i64 M2.key, .int .i64 M2.val, .int .u32 (M2.left : Int), .int .u32 (M2.right : Int), .int .i64 M2.size, .int .i64 M2.sum, .int .i64 M2.mn, .int .i64 M2.mx] 41 ∧ At y b22 [.int .i64 M.key, .int .i64 M.val, .int .u32 (M.left : Int), .int .u32 (M.right : Int), .int .i64 M.size, .int .i64 M.sum, .int .i64 M.mn, .int .i64 M.mx] 41 ∧ At y bx [.int .i64 X.key, .int .i64 X.val, .int .u32 (X.left : Int), .int .u32 (X.right : Int), .int .i64 X.size, .int .i64 X.sum, .int .i64 X.mn, .int .i64 X.mx] 41 ∧ Fr (fun b => b = b20 ∨ b = b21 ∨ b = b22) w12 y) ⟨by (repeat (first | assumption | (refine At.new' (by (first | omega | (simp; done) | (simp; omega))) _ _) | apply At.alloc | apply At.drewN | apply At.setRow | (apply At.setRow_neF; first | assumption | (apply Ne.symm; assumption) | omega) | (apply At.extF; assumption))), by (repeat (first | assumption | (refine At.new' (by (first | omega | (simp; done) | (simp; omega))) _ _) | apply At.alloc | apply At.drewN | apply At.setRow | (apply At.setRow_neF; first | assumption | (apply Ne.symm; assumption) | omega) | (apply At.extF; assumption))), by (repeat (first | assumption | (refine At.new' (by (first | omega | (simp; done) | (simp; omega))) _ _) | apply At.alloc | apply At.drewN | apply At.setRow | (apply At.setRow_neF; first | assumption | (apply Ne.symm; assumption) | omega) | (apply At.extF; assumption))), by (repeat (first | assumption | (refine At.new' (by (first | omega | (simp; done) | (simp; omega))) _ _) | apply At.alloc | apply At.drewN | apply At.setRow | (apply At.setRow_neF; first | assumption | (apply Ne.symm; assumption) | omega) | (apply At.extF; assumption))), by (repeat (first | assumption | (refine At.new' (by (first | omega | (simp; done) | (simp; omega))) _ _) | apply At.alloc | apply At.drewN | apply At.setRow | (apply At.setRow_neF; first | assumption | (apply Ne.symm; assumption) | omega) | (apply At.extF; assumption))), by (repeat (first | assumption | (refine At.new' (by (first | omega | (simp; done) | (simp; omega))) _ _) | apply At.alloc | apply At.drewN | apply At.setRow | (apply At.setRow_neF; first | assumption | (apply Ne.symm; assumption) | omega) | (apply At.extF; assumption))), by (repeat (first | exact Fr.refl _ _ | assumption | apply Fr.drewN | apply Fr.alloc | (apply Fr.transF; assumption) | (refine Fr.setRow ?_ _ (by first | exact Or.inr (by (first | omega | (simp; done) | (simp; omega))) | (exact Or.inl (by first | assumption | (simp; done)))))))⟩ ?_
      rintro w13 ⟨ha13, hn13, hqa13, hqb13, hqc13, hqX13, hf13⟩
      clear ha12 hn12 hqa12 hqb12 hqc12 hqX12
      have hz13 : Ext w9 w13 := hz12s.trans' hf13 fun b hb e => by omega
      refine go_drawE (Fr (fun b => b = b20 ∨ b = b22) w13) 0 Try.follows (by kernel_rfl) (by kernel_rfl) (by kernel_rfl) ((Fr.refl _ _).drewN 1) ?_
      have nS1 : ¬ (bd = b20 ∨ bd = b22) := by omega
      have nS2 : ¬ (bx = b20 ∨ bx = b22) := by omega
      repeat (first | refine sp ?_ | (refine is_load ?_; refine ld ?_) | (refine is_store ?_; refine sr ?_) | (refine is_alloc ?_; refine al ?_) | (refine is_box ?_; refine bx ?_) | (refine isl_load ?_; refine ldl ?_) | (refine isl_store ?_; refine srl ?_) | (refine isl_alloc ?_; refine all' ?_) | (refine isl_box ?_; refine bxl ?_))
      refine gol_call rfl rfl (c_at12 _ _ _ A.dump X.left (hdA.ext (hz13.trans ((Fr.refl _ _).drewN 1))) hdl hXl) ?_
      rintro _ w14 ⟨rfl, hx14⟩
      rw [dump_nd hwf, nodeOf_us hF2, hP]
      unfold Nd.cells
      have hx14' : Ext w13 w14 := Fr.trans ((Fr.refl _ _).drewN 1) hx14
      have ha14 := ha13.ext hx14'
      have hn14 := hn13.ext hx14'
      have hqa14 := hqa13.ext hx14'
      have hqb14 := hqb13.ext hx14'
      have hqc14 := hqc13.ext hx14'
      have hqX14 := hqX13.ext hx14'
      have hf14 : Fr (fun b => b = b20 ∨ b = b21 ∨ b = b22) w12 w14 := hf13.trans (hx14'.mono fun _ e => e.elim)
      have hD14 : Fr (fun b => b = b20 ∨ b = b22) w13 w14 := hx14'.mono fun _ e => e.elim
      refine ⟨hD14, ?_⟩
      have o20 : b20 = b20 ∨ b20 = b22 := Or.inl rfl
      have o22 : b22 = b20 ∨ b22 = b22 := Or.inr rfl
      repeat (first | refine sp ?_ | (refine is_load ?_; refine ld ?_) | (refine is_store ?_; refine sr ?_) | (refine is_alloc ?_; refine al ?_) | (refine is_box ?_; refine bx ?_) | (refine isl_load ?_; refine ldl ?_) | (refine isl_store ?_; refine srl ?_) | (refine isl_alloc ?_; refine all' ?_) | (refine isl_box ?_; refine bxl ?_))
      have q20 : b20 = b20 ∨ b20 = b21 ∨ b20 = b22 := Or.inl rfl
      have q21 : b21 = b20 ∨ b21 = b21 ∨ b21 = b22 := Or.inr (Or.inl rfl)
      have q22 : b22 = b20 ∨ b22 = b21 ∨ b22 = b22 := Or.inr (Or.inr rfl)
      refine go_name (F := fun y => At y bd [.slice s1 A.dump.slots.length c1, .slice s2 A.dump.free.length c2] 31 ∧ At y bn [.slice s3 R.dump.slots.length c3, .slice s4 R.dump.free.length c4] 31 ∧ At y b20 [.int .i64 P.key, .int .i64 P.val, .int .u32 (P.left : Int), .int .u32 (P.right : Int), .int .i64 P.size, .int .i64 P.sum, .int .i64 P.mn, .int .i64 P.mx] 41 ∧ At y b21 [.int .i64 M2.key, .int .i64 M2.val, .int .u32 (M2.left : Int), .int .u32 (M2.right : Int), .int .i64 M2.size, .int .i64 M2.sum, .int .i64 M2.mn, .int .i64 M2.mx] 41 ∧ At y b22 [.int .i64 X.key, .int .i64 X.val, .int .u32 (X.left : Int), .int .u32 (X.right : Int), .int .i64 X.size, .int .i64 X.sum, .int .i64 X.mn, .int .i64 X.mx] 41 ∧ At y bx [.int .i64 X.key, .int .i64 X.val, .int .u32 (X.left : Int), .int .u32 (X.right : Int), .int .i64 X.size, .int .i64 X.sum, .int .i64 X.mn, .int .i64 X.mx] 41 ∧ Fr (fun b => b = b20 ∨ b = b21 ∨ b = b22) w12 y) ⟨by (repeat (first | assumption | (refine At.new' (by (first | omega | (simp; done) | (simp; omega))) _ _) | apply At.alloc | apply At.drewN | apply At.setRow | (apply At.setRow_neF; first | assumption | (apply Ne.symm; assumption) | omega) | (apply At.extF; assumption))), by (repeat (first | assumption | (refine At.new' (by (first | omega | (simp; done) | (simp; omega))) _ _) | apply At.alloc | apply At.drewN | apply At.setRow | (apply At.setRow_neF; first | assumption | (apply Ne.symm; assumption) | omega) | (apply At.extF; assumption))), by (repeat (first | assumption | (refine At.new' (by (first | omega | (simp; done) | (simp; omega))) _ _) | apply At.alloc | apply At.drewN | apply At.setRow | (apply At.setRow_neF; first | assumption | (apply Ne.symm; assumption) | omega) | (apply At.extF; assumption))), by (repeat (first | assumption | (refine At.new' (by (first | omega | (simp; done) | (simp; omega))) _ _) | apply At.alloc | apply At.drewN | apply At.setRow | (apply At.setRow_neF; first | assumption | (apply Ne.symm; assumption) | omega) | (apply At.extF; assumption))), by (repeat (first | assumption | (refine At.new' (by (first | omega | (simp; done) | (simp; omega))) _ _) | apply At.alloc | apply At.drewN | apply At.setRow | (apply At.setRow_neF; first | assumption | (apply Ne.symm; assumption) | omega) | (apply At.extF; assumption))), by (repeat (first | assumption | (refine At.new' (by (first | omega | (simp; done) | (simp; omega))) _ _) | apply At.alloc | apply At.drewN | apply At.setRow | (apply At.setRow_neF; first | assumption | (apply Ne.symm; assumption) | omega) | (apply At.extF; assumption))), by (repeat (first | exact Fr.refl _ _ | assumption | apply Fr.drewN | apply Fr.alloc | (apply Fr.transF; assumption) | (refine Fr.setRow ?_ _ (by first | exact Or.inr (by (first | omega | (simp; done) | (simp; omega))) | (exact Or.inl (by first | assumption | (simp; done)))))))⟩ ?_
      rintro w15 ⟨ha15, hn15, hqa15, hqb15, hqc15, hqX15, hf15⟩
      clear ha14 hn14 hqa14 hqb14 hqc14 hqX14
      have hz15 : Ext w9 w15 := hz12s.trans' hf15 fun b hb e => by omega
      repeat (first | refine sp ?_ | (refine is_load ?_; refine ld ?_) | (refine is_store ?_; refine sr ?_) | (refine is_alloc ?_; refine al ?_) | (refine is_box ?_; refine bx ?_) | (refine isl_load ?_; refine ldl ?_) | (refine isl_store ?_; refine srl ?_) | (refine isl_alloc ?_; refine all' ?_) | (refine isl_box ?_; refine bxl ?_))
      refine go_call rfl rfl (c_at12 w15 _ _ A.dump P.right (hdA.ext hz15) hdl (used_lt hwf (Or.inr hF3))) ?_
      rintro _ w16 ⟨rfl, hx16⟩
      rw [dump_nd hwf, nodeOf_us hF3, hQ]
      unfold Nd.cells
      have ha16 := ha15.ext hx16
      have hn16 := hn15.ext hx16
      have hqa16 := hqa15.ext hx16
      have hqb16 := hqb15.ext hx16
      have hqc16 := hqc15.ext hx16
      have hqX16 := hqX15.ext hx16
      have hf16 : Fr (fun b => b = b20 ∨ b = b21 ∨ b = b22) w12 w16 := hf15.trans (hx16.mono fun _ e => e.elim)
      repeat (first | refine sp ?_ | (refine is_load ?_; refine ld ?_) | (refine is_store ?_; refine sr ?_) | (refine is_alloc ?_; refine al ?_) | (refine is_box ?_; refine bx ?_) | (refine isl_load ?_; refine ldl ?_) | (refine isl_store ?_; refine srl ?_) | (refine isl_alloc ?_; refine all' ?_) | (refine isl_box ?_; refine bxl ?_))
      refine go_name (F := fun y => At y bd [.slice s1 A.dump.slots.length c1, .slice s2 A.dump.free.length c2] 31 ∧ At y bn [.slice s3 R.dump.slots.length c3, .slice s4 R.dump.free.length c4] 31 ∧ At y b20 [.int .i64 P.key, .int .i64 P.val, .int .u32 (P.left : Int), .int .u32 (P.right : Int), .int .i64 P.size, .int .i64 P.sum, .int .i64 P.mn, .int .i64 P.mx] 41 ∧ At y b21 [.int .i64 Q.key, .int .i64 Q.val, .int .u32 (Q.left : Int), .int .u32 (Q.right : Int), .int .i64 Q.size, .int .i64 Q.sum, .int .i64 Q.mn, .int .i64 Q.mx] 41 ∧ At y b22 [.int .i64 X.key, .int .i64 X.val, .int .u32 (X.left : Int), .int .u32 (X.right : Int), .int .i64 X.size, .int .i64 X.sum, .int .i64 X.mn, .int .i64 X.mx] 41 ∧ At y bx [.int .i64 X.key, .int .i64 X.val, .int .u32 (X.left : Int), .int .u32 (X.right : Int), .int .i64 X.size, .int .i64 X.sum, .int .i64 X.mn, .int .i64 X.mx] 41 ∧ Fr (fun b => b = b20 ∨ b = b21 ∨ b = b22) w12 y) ⟨by (repeat (first | assumption | (refine At.new' (by (first | omega | (simp; done) | (simp; omega))) _ _) | apply At.alloc | apply At.drewN | apply At.setRow | (apply At.setRow_neF; first | assumption | (apply Ne.symm; assumption) | omega) | (apply At.extF; assumption))), by (repeat (first | assumption | (refine At.new' (by (first | omega | (simp; done) | (simp; omega))) _ _) | apply At.alloc | apply At.drewN | apply At.setRow | (apply At.setRow_neF; first | assumption | (apply Ne.symm; assumption) | omega) | (apply At.extF; assumption))), by (repeat (first | assumption | (refine At.new' (by (first | omega | (simp; done) | (simp; omega))) _ _) | apply At.alloc | apply At.drewN | apply At.setRow | (apply At.setRow_neF; first | assumption | (apply Ne.symm; assumption) | omega) | (apply At.extF; assumption))), by (repeat (first | assumption | (refine At.new' (by (first | omega | (simp; done) | (simp; omega))) _ _) | apply At.alloc | apply At.drewN | apply At.setRow | (apply At.setRow_neF; first | assumption | (apply Ne.symm; assumption) | omega) | (apply At.extF; assumption))), by (repeat (first | assumption | (refine At.new' (by (first | omega | (simp; done) | (simp; omega))) _ _) | apply At.alloc | apply At.drewN | apply At.setRow | (apply At.setRow_neF; first | assumption | (apply Ne.symm; assumption) | omega) | (apply At.extF; assumption))), by (repeat (first | assumption | (refine At.new' (by (first | omega | (simp; done) | (simp; omega))) _ _) | apply At.alloc | apply At.drewN | apply At.setRow | (apply At.setRow_neF; first | assumption | (apply Ne.symm; assumption) | omega) | (apply At.extF; assumption))), by (repeat (first | exact Fr.refl _ _ | assumption | apply Fr.drewN | apply Fr.alloc | (apply Fr.transF; assumption) | (refine Fr.setRow ?_ _ (by first | exact Or.inr (by (first | omega | (simp; done) | (simp; omega))) | (exact Or.inl (by first | assumption | (simp; done)))))))⟩ ?_
      rintro w17 ⟨ha17, hn17, hqa17, hqb17, hqc17, hqX17, hf17⟩
      clear ha16 hn16 hqa16 hqb16 hqc16 hqX16
      have hz17 : Ext w9 w17 := hz12s.trans' hf17 fun b hb e => by omega
      refine dr Try.follows ?_
      repeat (first | refine sp ?_ | (refine is_load ?_; refine ld ?_) | (refine is_store ?_; refine sr ?_) | (refine is_alloc ?_; refine al ?_) | (refine is_box ?_; refine bx ?_) | (refine isl_load ?_; refine ldl ?_) | (refine isl_store ?_; refine srl ?_) | (refine isl_alloc ?_; refine all' ?_) | (refine isl_box ?_; refine bxl ?_))
      refine go_name (F := fun y => At y bd [.slice s1 A.dump.slots.length c1, .slice s2 A.dump.free.length c2] 31 ∧ At y bn [.slice s3 R.dump.slots.length c3, .slice s4 R.dump.free.length c4] 31 ∧ At y b20 [.int .i64 P.key, .int .i64 P.val, .int .u32 (P.left : Int), .int .u32 (P.right : Int), .int .i64 P.size, .int .i64 P.sum, .int .i64 P.mn, .int .i64 P.mx] 41 ∧ At y b21 [.int .i64 Q.key, .int .i64 Q.val, .int .u32 (Q.left : Int), .int .u32 (Q.right : Int), .int .i64 Q.size, .int .i64 Q.sum, .int .i64 Q.mn, .int .i64 Q.mx] 41 ∧ At y b22 [.int .i64 X.key, .int .i64 X.val, .int .u32 (X.left : Int), .int .u32 (X.right : Int), .int .i64 X.size, .int .i64 X.sum, .int .i64 X.mn, .int .i64 X.mx] 41 ∧ Ext w17 y) ⟨by (repeat (first | assumption | (refine At.new' (by (first | omega | (simp; done) | (simp; omega))) _ _) | apply At.alloc | apply At.drewN | apply At.setRow | (apply At.setRow_neF; first | assumption | (apply Ne.symm; assumption) | omega) | (apply At.extF; assumption))), by (repeat (first | assumption | (refine At.new' (by (first | omega | (simp; done) | (simp; omega))) _ _) | apply At.alloc | apply At.drewN | apply At.setRow | (apply At.setRow_neF; first | assumption | (apply Ne.symm; assumption) | omega) | (apply At.extF; assumption))), by (repeat (first | assumption | (refine At.new' (by (first | omega | (simp; done) | (simp; omega))) _ _) | apply At.alloc | apply At.drewN | apply At.setRow | (apply At.setRow_neF; first | assumption | (apply Ne.symm; assumption) | omega) | (apply At.extF; assumption))), by (repeat (first | assumption | (refine At.new' (by (first | omega | (simp; done) | (simp; omega))) _ _) | apply At.alloc | apply At.drewN | apply At.setRow | (apply At.setRow_neF; first | assumption | (apply Ne.symm; assumption) | omega) | (apply At.extF; assumption))), by (repeat (first | assumption | (refine At.new' (by (first | omega | (simp; done) | (simp; omega))) _ _) | apply At.alloc | apply At.drewN | apply At.setRow | (apply At.setRow_neF; first | assumption | (apply Ne.symm; assumption) | omega) | (apply At.extF; assumption))), by (repeat (first | exact Fr.refl _ _ | assumption | apply Fr.drewN | apply Fr.alloc | (apply Fr.transF; assumption) | (refine Fr.setRow ?_ _ (by first | exact Or.inr (by (first | omega | (simp; done) | (simp; omega))) | (exact Or.inl (by first | assumption | (simp; done)))))))⟩ ?_
      rintro w18 ⟨ha18, hn18, hqa18, hqb18, hqc18, hx18⟩
      have hz18 := hz17.trans hx18
      refine go_call rfl rfl (c_at12 w18 _ _ R.dump o (hdN.ext hz18) hdl2 hol) ?_
      rintro _ w19 ⟨rfl, hx19⟩
      rw [dump_nd hwfR, nodeOf_us n1.use, hY]
      have ha19 := ha18.ext hx19
      have hn19 := hn18.ext hx19
      have hqa19 := hqa18.ext hx19
      have hqb19 := hqb18.ext hx19
      have hqc19 := hqc18.ext hx19
      have hz19 := hz18.trans hx19
      have hsz19 := hx19.size
      have ltha19 := ha19.lt
      have lthn19 := hn19.lt
      have lthqa19 := hqa19.lt
      have lthqb19 := hqb19.lt
      have lthqc19 := hqc19.lt
      unfold Nd.cells
      repeat (first | refine sp ?_ | (refine is_load ?_; refine ld ?_) | (refine is_store ?_; refine sr ?_) | (refine is_alloc ?_; refine al ?_) | (refine is_box ?_; refine bx ?_) | (refine isl_load ?_; refine ldl ?_) | (refine isl_store ?_; refine srl ?_) | (refine isl_alloc ?_; refine all' ?_) | (refine isl_box ?_; refine bxl ?_))
      refine go_name (F := fun y => At y bd [.slice s1 A.dump.slots.length c1, .slice s2 A.dump.free.length c2] 31 ∧ At y bn [.slice s3 R.dump.slots.length c3, .slice s4 R.dump.free.length c4] 31 ∧ At y w19.heap.size [.int .i64 Y.key, .int .i64 Y.val, .int .u32 (Y.left : Int), .int .u32 (Y.right : Int), .int .i64 Y.size, .int .i64 Y.sum, .int .i64 Y.mn, .int .i64 Y.mx] 41 ∧ At y b20 [.int .i64 P.key, .int .i64 P.val, .int .u32 (P.left : Int), .int .u32 (P.right : Int), .int .i64 P.size, .int .i64 P.sum, .int .i64 P.mn, .int .i64 P.mx] 41 ∧ At y b21 [.int .i64 Q.key, .int .i64 Q.val, .int .u32 (Q.left : Int), .int .u32 (Q.right : Int), .int .i64 Q.size, .int .i64 Q.sum, .int .i64 Q.mn, .int .i64 Q.mx] 41 ∧ At y b22 [.int .i64 X.key, .int .i64 X.val, .int .u32 (X.left : Int), .int .u32 (X.right : Int), .int .i64 X.size, .int .i64 X.sum, .int .i64 X.mn, .int .i64 X.mx] 41 ∧ Ext w19 y) ⟨by (repeat (first | assumption | (refine At.new' (by (first | omega | (simp; done) | (simp; omega))) _ _) | apply At.alloc | apply At.drewN | apply At.setRow | (apply At.setRow_neF; first | assumption | (apply Ne.symm; assumption) | omega) | (apply At.extF; assumption))), by (repeat (first | assumption | (refine At.new' (by (first | omega | (simp; done) | (simp; omega))) _ _) | apply At.alloc | apply At.drewN | apply At.setRow | (apply At.setRow_neF; first | assumption | (apply Ne.symm; assumption) | omega) | (apply At.extF; assumption))), by (repeat (first | assumption | (refine At.new' (by (first | omega | (simp; done) | (simp; omega))) _ _) | apply At.alloc | apply At.drewN | apply At.setRow | (apply At.setRow_neF; first | assumption | (apply Ne.symm; assumption) | omega) | (apply At.extF; assumption))), by (repeat (first | assumption | (refine At.new' (by (first | omega | (simp; done) | (simp; omega))) _ _) | apply At.alloc | apply At.drewN | apply At.setRow | (apply At.setRow_neF; first | assumption | (apply Ne.symm; assumption) | omega) | (apply At.extF; assumption))), by (repeat (first | assumption | (refine At.new' (by (first | omega | (simp; done) | (simp; omega))) _ _) | apply At.alloc | apply At.drewN | apply At.setRow | (apply At.setRow_neF; first | assumption | (apply Ne.symm; assumption) | omega) | (apply At.extF; assumption))), by (repeat (first | assumption | (refine At.new' (by (first | omega | (simp; done) | (simp; omega))) _ _) | apply At.alloc | apply At.drewN | apply At.setRow | (apply At.setRow_neF; first | assumption | (apply Ne.symm; assumption) | omega) | (apply At.extF; assumption))), by (repeat (first | exact Fr.refl _ _ | assumption | apply Fr.drewN | apply Fr.alloc | (apply Fr.transF; assumption) | (refine Fr.setRow ?_ _ (by first | exact Or.inr (by (first | omega | (simp; done) | (simp; omega))) | (exact Or.inl (by first | assumption | (simp; done)))))))⟩ ?_
      rintro w20 ⟨ha20, hn20, hqY20, hqa20, hqb20, hqc20, hx20⟩
      have hz20 := hz19.trans hx20
      generalize w19.heap.size = by_ at *
      refine go_drawE (Fr (fun _ => False) w20) 0 Try.follows (by kernel_rfl) (by kernel_rfl) (by kernel_rfl) ((Fr.refl _ _).drewN 1) ?_
      refine go_name (F := fun y => Ext w20 y) ((Fr.refl _ _).drewN 1) ?_
      rintro w21 hy21
      repeat (first | refine sp ?_ | (refine is_load ?_; refine ld ?_) | (refine is_store ?_; refine sr ?_) | (refine is_alloc ?_; refine al ?_) | (refine is_box ?_; refine bx ?_) | (refine isl_load ?_; refine ldl ?_) | (refine isl_store ?_; refine srl ?_) | (refine isl_alloc ?_; refine all' ?_) | (refine isl_box ?_; refine bxl ?_))
      refine gol_call rfl rfl (c_is w21 Y Q Y.left Y.right y1 y2 rfl rfl) ?_
      rintro _ w22 ⟨rfl, hx22⟩
      have hy22 := hy21.trans hx22
      refine ⟨hy22, ?_⟩
      repeat (first | refine sp ?_ | (refine is_load ?_; refine ld ?_) | (refine is_store ?_; refine sr ?_) | (refine is_alloc ?_; refine al ?_) | (refine is_box ?_; refine bx ?_) | (refine isl_load ?_; refine ldl ?_) | (refine isl_store ?_; refine srl ?_) | (refine isl_alloc ?_; refine all' ?_) | (refine isl_box ?_; refine bxl ?_))
      refine gol_call rfl rfl (c_at12 w22 _ _ R.dump Y.left (hdN.ext (hz20.trans hy22)) hdl2 (by rw [y3]; exact hjl)) ?_
      rintro _ w23 ⟨rfl, hx23⟩
      rw [dump_nd hwfR, y3, nodeOf_us n2.use, hU]
      unfold Nd.cells
      have hy23 := hy22.trans hx23
      refine ⟨hy23, ?_⟩
      repeat (first | refine sp ?_ | (refine is_load ?_; refine ld ?_) | (refine is_store ?_; refine sr ?_) | (refine is_alloc ?_; refine al ?_) | (refine is_box ?_; refine bx ?_) | (refine isl_load ?_; refine ldl ?_) | (refine isl_store ?_; refine srl ?_) | (refine isl_alloc ?_; refine all' ?_) | (refine isl_box ?_; refine bxl ?_))
      refine gol_call rfl rfl (c_is w23 U P P.left Q.left u1 u2 u3 u4) ?_
      rintro _ w24 ⟨rfl, hx24⟩
      have hy24 := hy23.trans hx24
      refine ⟨hy24, ?_⟩
      repeat (first | refine sp ?_ | (refine is_load ?_; refine ld ?_) | (refine is_store ?_; refine sr ?_) | (refine is_alloc ?_; refine al ?_) | (refine is_box ?_; refine bx ?_) | (refine isl_load ?_; refine ldl ?_) | (refine isl_store ?_; refine srl ?_) | (refine isl_alloc ?_; refine all' ?_) | (refine isl_box ?_; refine bxl ?_))
      refine gol_call rfl rfl (c_at12 w24 _ _ R.dump Y.right (hdN.ext (hz20.trans hy24)) hdl2 (by rw [y4]; exact hkl)) ?_
      rintro _ w25 ⟨rfl, hx25⟩
      rw [dump_nd hwfR, y4, nodeOf_us n3.use, hV]
      unfold Nd.cells
      have hy25 := hy24.trans hx25
      refine ⟨hy25, ?_⟩
      repeat (first | refine sp ?_ | (refine is_load ?_; refine ld ?_) | (refine is_store ?_; refine sr ?_) | (refine is_alloc ?_; refine al ?_) | (refine is_box ?_; refine bx ?_) | (refine isl_load ?_; refine ldl ?_) | (refine isl_store ?_; refine srl ?_) | (refine isl_alloc ?_; refine all' ?_) | (refine isl_box ?_; refine bxl ?_))
      refine gol_call rfl rfl (c_is w25 V X Q.right X.right v1 v2 v3 v4) ?_
      rintro _ w26 ⟨rfl, hx26⟩
      have hy26 := hy25.trans hx26
      refine ⟨hy26, ?_⟩
      repeat (first | refine sp ?_ | (refine is_load ?_; refine ld ?_) | (refine is_store ?_; refine sr ?_) | (refine is_alloc ?_; refine al ?_) | (refine is_box ?_; refine bx ?_) | (refine isl_load ?_; refine ldl ?_) | (refine isl_store ?_; refine srl ?_) | (refine isl_alloc ?_; refine all' ?_) | (refine isl_box ?_; refine bxl ?_))
      have ha26 := ha20.ext hy26
      have hn26 := hn20.ext hy26
      have hqY26 := hqY20.ext hy26
      have hqa26 := hqa20.ext hy26
      have hqb26 := hqb20.ext hy26
      have hqc26 := hqc20.ext hy26
      have hz26 := hz20.trans hy26
      refine go_call rfl rfl (c_fresh w26 _ _ _ _ A.dump R.dump o (hdA.ext hz26) (hdN.ext hz26) hdl hdl2 hol (by rw [dump_al hwf]; exact n1.new) (by rw [dump_al hwfR]; exact n1.use)) ?_
      rintro _ w27 ⟨rfl, hx27⟩
      have ha27 := ha26.ext hx27
      have hn27 := hn26.ext hx27
      have hqY27 := hqY26.ext hx27
      have hqa27 := hqa26.ext hx27
      have hqb27 := hqb26.ext hx27
      have hqc27 := hqc26.ext hx27
      have hz27 := hz26.trans hx27
      repeat (first | refine sp ?_ | (refine is_load ?_; refine ld ?_) | (refine is_store ?_; refine sr ?_) | (refine is_alloc ?_; refine al ?_) | (refine is_box ?_; refine bx ?_) | (refine isl_load ?_; refine ldl ?_) | (refine isl_store ?_; refine srl ?_) | (refine isl_alloc ?_; refine all' ?_) | (refine isl_box ?_; refine bxl ?_))
      refine go_call rfl rfl (c_fresh w27 _ _ _ _ A.dump R.dump Y.left (hdA.ext hz27) (hdN.ext hz27) hdl hdl2 (by rw [y3]; exact hjl) (by rw [dump_al hwf, y3]; exact n2.new) (by rw [dump_al hwfR, y3]; exact n2.use)) ?_
      rintro _ w28 ⟨rfl, hx28⟩
      have ha28 := ha27.ext hx28
      have hn28 := hn27.ext hx28
      have hqY28 := hqY27.ext hx28
      have hqa28 := hqa27.ext hx28
      have hqb28 := hqb27.ext hx28
      have hqc28 := hqc27.ext hx28
      have hz28 := hz27.trans hx28
      repeat (first | refine sp ?_ | (refine is_load ?_; refine ld ?_) | (refine is_store ?_; refine sr ?_) | (refine is_alloc ?_; refine al ?_) | (refine is_box ?_; refine bx ?_) | (refine isl_load ?_; refine ldl ?_) | (refine isl_store ?_; refine srl ?_) | (refine isl_alloc ?_; refine all' ?_) | (refine isl_box ?_; refine bxl ?_))
      refine go_call rfl rfl (c_fresh w28 _ _ _ _ A.dump R.dump Y.right (hdA.ext hz28) (hdN.ext hz28) hdl hdl2 (by rw [y4]; exact hkl) (by rw [dump_al hwf, y4]; exact n3.new) (by rw [dump_al hwfR, y4]; exact n3.use)) ?_
      rintro _ w29 ⟨rfl, hx29⟩
      have ha29 := ha28.ext hx29
      have hn29 := hn28.ext hx29
      have hqY29 := hqY28.ext hx29
      have hqa29 := hqa28.ext hx29
      have hqb29 := hqb28.ext hx29
      have hqc29 := hqc28.ext hx29
      have hz29 := hz28.trans hx29
      have g29 := g6.ext (hx69.trans hz29)
      repeat (first | refine sp ?_ | (refine is_load ?_; refine ld ?_) | (refine is_store ?_; refine sr ?_) | (refine is_alloc ?_; refine al ?_) | (refine is_box ?_; refine bx ?_) | (refine isl_load ?_; refine ldl ?_) | (refine isl_store ?_; refine srl ?_) | (refine isl_alloc ?_; refine all' ?_) | (refine isl_box ?_; refine bxl ?_))
      refine go_call rfl rfl (p_Free w29 lo p q6 R g29.ar) ?_
      rintro _ w30 ⟨rfl, hx30⟩
      have ha30 := ha29.ext hx30
      have hn30 := hn29.ext hx30
      have hqY30 := hqY29.ext hx30
      have hqa30 := hqa29.ext hx30
      have hqb30 := hqb29.ext hx30
      have hqc30 := hqc29.ext hx30
      have hz30 := hz29.trans hx30
      repeat (first | refine sp ?_ | (refine is_load ?_; refine ld ?_) | (refine is_store ?_; refine sr ?_) | (refine is_alloc ?_; refine al ?_) | (refine is_box ?_; refine bx ?_) | (refine isl_load ?_; refine ldl ?_) | (refine isl_store ?_; refine srl ?_) | (refine isl_alloc ?_; refine all' ?_) | (refine isl_box ?_; refine bxl ?_))
      refine go_call rfl rfl (c_Kept w30 _ _ _ _ A.dump R.dump (hdA.ext hz30) (hdN.ext hz30) (kp6.kept hwf) hdl) ?_
      rintro _ w31 ⟨rfl, hx31⟩
      have hz31 := hz30.trans hx31
      have hx631 := hx69.trans hz31
      have own31 := Own.ext own6 hx631
      have g31 := g6.ext hx631
      repeat (first | refine sp ?_ | (refine is_load ?_; refine ld ?_) | (refine is_store ?_; refine sr ?_) | (refine is_alloc ?_; refine al ?_) | (refine is_box ?_; refine bx ?_) | (refine isl_load ?_; refine ldl ?_) | (refine isl_store ?_; refine srl ?_) | (refine isl_alloc ?_; refine all' ?_) | (refine isl_box ?_; refine bxl ?_))
      refine go_litG (l := [.int .u32 (o : Int)]) rfl rfl (by decide) (by decide) rfl ?_
      have hx32 : Ext w31 (w31.alloc (.cells [Value.int .u32 (o : Int)].toArray 23)) := by (repeat (first | exact Fr.refl _ _ | assumption | apply Fr.drewN | apply Fr.alloc | (apply Fr.transF; assumption) | (refine Fr.setRow ?_ _ (by first | exact Or.inr (by (first | omega | (simp; done) | (simp; omega))) | (exact Or.inl (by first | assumption | (simp; done)))))))
      have hat32 := At.new w31 [Value.int .u32 (o : Int)] 23
      have own32 := Own.ext own31 hx32
      have g32 := g31.ext hx32
      have hx632 := hx631.trans hx32
      have hsw := (hx06.trans hx632).size
      generalize w31.alloc (.cells [Value.int .u32 (o : Int)].toArray 23) = w32 at *
      generalize w31.heap.size = nb at *
      repeat (first | refine sp ?_ | (refine is_load ?_; refine ld ?_) | (refine is_store ?_; refine sr ?_) | (refine is_alloc ?_; refine al ?_) | (refine is_box ?_; refine bx ?_) | (refine isl_load ?_; refine ldl ?_) | (refine isl_store ?_; refine srl ?_) | (refine isl_alloc ?_; refine all' ?_) | (refine isl_box ?_; refine bxl ?_))
      refine go_appendG (r := 1) (c := 1) (sa := some ⟨nb, 0, none⟩) (news := [.int .u32 (o : Int)]) (by decide) rfl rfl rfl own32 (by
        intro j u hj
        exact ⟨_, _, rfl, by have := hat32.cell (i := j) (v := u) hj; simpa using this⟩) rfl (by intro u hu; simp at hu; subst hu; rfl) (by simp [maxLen]; omega) (by omega) hsw ?_
      intro v33 w33 ho33 hg33 hbk33
      have ho33' : OwnN w33 w.heap.size v33 (ms ++ [o]) := by
        unfold OwnN
        rw [List.map_append, List.length_append]
        exact ho33
      have b33 := b5.push g32 kp6 (Or.inr n1.use) hq6 (hf6.trans (hx632.mono fun _ e => e.elim)) (by omega) ho33' hg33 (fun b hb => (hbk33 b hb).imp id fun e => by omega)
      have hr33 : RdU w33 w33.heap.size v33 u32c (ms ++ [o]) := by
        have h1 := ho33'
        unfold OwnN at h1
        rw [← flatMap_one] at h1
        exact (Own.rd (enc := u32c) h1 rfl).up
      obtain ⟨sv33, cv33, rfl, _, _⟩ := Own.slice ho33'
      repeat (first | refine sp ?_ | (refine is_load ?_; refine ld ?_) | (refine is_store ?_; refine sr ?_) | (refine is_alloc ?_; refine al ?_) | (refine is_box ?_; refine bx ?_) | (refine isl_load ?_; refine ldl ?_) | (refine isl_store ?_; refine srl ?_) | (refine isl_alloc ?_; refine all' ?_) | (refine isl_box ?_; refine bxl ?_))
      refine go_call rfl rfl (c_KSound w33 lo p _ q6 _ R _ (ms ++ [o]) b33.ars.ar b33.ars.snd hr33 (Nat.le_refl _) (by have := b33.len.2; omega) (fun x hx => used_lt hwfR (b33.us x hx)) (fun i hi => rfl)) ?_
      rintro _ w34 ⟨rfl, hx34⟩
      repeat (first | refine sp ?_ | (refine is_load ?_; refine ld ?_) | (refine is_store ?_; refine sr ?_) | (refine is_alloc ?_; refine al ?_) | (refine is_box ?_; refine bx ?_) | (refine isl_load ?_; refine ldl ?_) | (refine isl_store ?_; refine srl ?_) | (refine isl_alloc ?_; refine all' ?_) | (refine isl_box ?_; refine bxl ?_))
      exact go_ret1 rfl rfl ⟨_, rfl, rfl, b33.ext.trans hx34⟩
    · have hat6 := hat5.fr hf6 (fun h => by have := hfp _ h; omega)
      have hd6 : DpAt w6 w3.heap.size _ A.dump := hd5.fr hf6 fun b h1 h2 h => by have := hfp b h; omega
      have hx06 : Ext w w6 := b5.ext.trans' hf6 fun b hb e => by have := b5.ars.lof b e; have := b5.lo0; omega
      have hlat := hat6.lt
      repeat (first | refine sp ?_ | (refine is_load ?_; refine ld ?_) | (refine is_store ?_; refine sr ?_) | (refine is_alloc ?_; refine al ?_) | (refine is_box ?_; refine bx ?_) | (refine isl_load ?_; refine ldl ?_) | (refine isl_store ?_; refine srl ?_) | (refine isl_alloc ?_; refine all' ?_) | (refine isl_box ?_; refine bxl ?_))
      refine go_call rfl rfl (p_Dump w6 lo p q B' g6.ar) ?_
      rintro _ w7 ⟨hd7, hx7⟩
      rw [r6.dumpE] at hd7
      obtain ⟨s3, c3, s4, c4, rfl, _, _⟩ := hd7.b
      have hat7 := hat6.ext hx7
      have hl67 := hx7.size
      repeat (first | refine sp ?_ | (refine is_load ?_; refine ld ?_) | (refine is_store ?_; refine sr ?_) | (refine is_alloc ?_; refine al ?_) | (refine is_box ?_; refine bx ?_) | (refine isl_load ?_; refine ldl ?_) | (refine isl_store ?_; refine srl ?_) | (refine isl_alloc ?_; refine all' ?_) | (refine isl_box ?_; refine bxl ?_))
      refine go_name (F := fun w8 => At w8 w7.heap.size [.slice s3 A.dump.slots.length c3, .slice s4 A.dump.free.length c4] 31 ∧ At w8 bd [.slice s1 A.dump.slots.length c1, .slice s2 A.dump.free.length c2] 31 ∧ Ext w7 w8) ⟨by (repeat (first | assumption | (refine At.new' (by (first | omega | (simp; done) | (simp; omega))) _ _) | apply At.alloc | apply At.drewN | apply At.setRow | (apply At.setRow_neF; first | assumption | (apply Ne.symm; assumption) | omega) | (apply At.extF; assumption))), by (repeat (first | assumption | (refine At.new' (by (first | omega | (simp; done) | (simp; omega))) _ _) | apply At.alloc | apply At.drewN | apply At.setRow | (apply At.setRow_neF; first | assumption | (apply Ne.symm; assumption) | omega) | (apply At.extF; assumption))), by (repeat (first | exact Fr.refl _ _ | assumption | apply Fr.drewN | apply Fr.alloc | (apply Fr.transF; assumption) | (refine Fr.setRow ?_ _ (by first | exact Or.inr (by (first | omega | (simp; done) | (simp; omega))) | (exact Or.inl (by first | assumption | (simp; done)))))))⟩ ?_
      rintro w8 ⟨hn8, ha8, hx8⟩
      have hdA := (hd6.ext hx7).ext hx8
      have hdN := hd7.ext hx8
      refine go_call rfl rfl (c_formed w8 _ _ A _ rt 3 sndA hdA hrl hk1) ?_
      rintro _ w9 ⟨⟨bb, rfl, hbb⟩, hx9⟩
      have hn9 := hn8.ext hx9
      have ha9 := ha8.ext hx9
      have hx69 := (hx7.trans hx8).trans hx9
      rcases hE with ⟨rfl, hnF⟩ | ⟨rfl, hF, hfl⟩
      · obtain rfl : bb = false := by
          cases bb with
          | false => rfl
          | true => exact absurd (hbb.1 rfl) hnF
        repeat (first | refine sp ?_ | (refine is_load ?_; refine ld ?_) | (refine is_store ?_; refine sr ?_) | (refine is_alloc ?_; refine al ?_) | (refine is_box ?_; refine bx ?_) | (refine isl_load ?_; refine ldl ?_) | (refine isl_store ?_; refine srl ?_) | (refine isl_alloc ?_; refine all' ?_) | (refine isl_box ?_; refine bxl ?_))
        refine go_call rfl rfl (c_SameDump w9 _ _ _ _ A.dump (hdA.ext hx9) (hdN.ext hx9) hdl hdl') ?_
        rintro _ w10 ⟨rfl, hx10⟩
        repeat (first | refine sp ?_ | (refine is_load ?_; refine ld ?_) | (refine is_store ?_; refine sr ?_) | (refine is_alloc ?_; refine al ?_) | (refine is_box ?_; refine bx ?_) | (refine isl_load ?_; refine ldl ?_) | (refine isl_store ?_; refine srl ?_) | (refine isl_alloc ?_; refine all' ?_) | (refine isl_box ?_; refine bxl ?_))
        exact go_ret1 rfl rfl ⟨_, rfl, rfl, (hx06.trans hx69).trans hx10⟩
      · obtain rfl : bb = true := hbb.2 hF
        have hfl : A.free < 3 := hfl
        repeat (first | refine sp ?_ | (refine is_load ?_; refine ld ?_) | (refine is_store ?_; refine sr ?_) | (refine is_alloc ?_; refine al ?_) | (refine is_box ?_; refine bx ?_) | (refine isl_load ?_; refine ldl ?_) | (refine isl_store ?_; refine srl ?_) | (refine isl_alloc ?_; refine all' ?_) | (refine isl_box ?_; refine bxl ?_))
        refine go_call rfl rfl (c_SameDump w9 _ _ _ _ A.dump (hdA.ext hx9) (hdN.ext hx9) hdl hdl') ?_
        rintro _ w10 ⟨rfl, hx10⟩
        repeat (first | refine sp ?_ | (refine is_load ?_; refine ld ?_) | (refine is_store ?_; refine sr ?_) | (refine is_alloc ?_; refine al ?_) | (refine is_box ?_; refine bx ?_) | (refine isl_load ?_; refine ldl ?_) | (refine isl_store ?_; refine srl ?_) | (refine isl_alloc ?_; refine all' ?_) | (refine isl_box ?_; refine bxl ?_))
        exact go_ret1 rfl rfl ⟨_, rfl, rfl, (hx06.trans hx69).trans hx10⟩
  | false =>
    have hk1 : (2 : Nat) < 4 := by omega
    repeat (first | refine sp ?_ | (refine is_load ?_; refine ld ?_) | (refine is_store ?_; refine sr ?_) | (refine is_alloc ?_; refine al ?_) | (refine is_box ?_; refine bx ?_) | (refine isl_load ?_; refine ldl ?_) | (refine isl_store ?_; refine srl ?_) | (refine isl_alloc ?_; refine all' ?_) | (refine isl_box ?_; refine bxl ?_))
    refine go_call rfl rfl (c_Mod which ms.length w3 hwh (by omega)) ?_
    rintro _ w3 ⟨rfl, rfl⟩
    rw [hu]
    repeat (first | refine sp ?_ | (refine is_load ?_; refine ld ?_) | (refine is_store ?_; refine sr ?_) | (refine is_alloc ?_; refine al ?_) | (refine is_box ?_; refine bx ?_) | (refine isl_load ?_; refine ldl ?_) | (refine isl_store ?_; refine srl ?_) | (refine isl_alloc ?_; refine all' ?_) | (refine isl_box ?_; refine bxl ?_))
    refine go_call rfl rfl (p_Dump w3 lo p q A b3.ars.ar) ?_
    rintro _ w4 ⟨hd4, hx4⟩
    obtain ⟨s1, c1, s2, c2, rfl, _, _⟩ := hd4.b
    repeat (first | refine sp ?_ | (refine is_load ?_; refine ld ?_) | (refine is_store ?_; refine sr ?_) | (refine is_alloc ?_; refine al ?_) | (refine is_box ?_; refine bx ?_) | (refine isl_load ?_; refine ldl ?_) | (refine isl_store ?_; refine srl ?_) | (refine isl_alloc ?_; refine all' ?_) | (refine isl_box ?_; refine bxl ?_))
    refine go_name (F := fun w5 => At w5 w4.heap.size [.slice s1 A.dump.slots.length c1, .slice s2 A.dump.free.length c2] 31 ∧ Ext w4 w5) ⟨by (repeat (first | assumption | (refine At.new' (by (first | omega | (simp; done) | (simp; omega))) _ _) | apply At.alloc | apply At.drewN | apply At.setRow | (apply At.setRow_neF; first | assumption | (apply Ne.symm; assumption) | omega) | (apply At.extF; assumption))), by (repeat (first | exact Fr.refl _ _ | assumption | apply Fr.drewN | apply Fr.alloc | (apply Fr.transF; assumption) | (refine Fr.setRow ?_ _ (by first | exact Or.inr (by (first | omega | (simp; done) | (simp; omega))) | (exact Or.inl (by first | assumption | (simp; done)))))))⟩ ?_
    rintro w5 ⟨hat5, hx5⟩
    have b5 := (b3.step hx4).step hx5
    have hd5 := hd4.ext hx5
    have hl3 : w3.heap.size ≤ w4.heap.size := hx4.size
    have hfp : ∀ b, q.fp b → b < w3.heap.size := b3.ars.ar.lt
    have hwf := b3.ars.ar.wf
    have hdl := (dump_len hwf).1
    have hdl' := (dump_len hwf).2
    have sndA := b3.ars.snd
    generalize hbd : w4.heap.size = bd at *
    refine go_call rfl rfl (c_call w5 lo p q A _ rt 2 b5.ars b5.hb hrl (by omega)) ?_
    rintro v6 w6 (⟨hF, h2f, q6, R, o, rfl, g6, kp6, hfr6, hG, hq6, hf6⟩ | ⟨E, B', rfl, hE, g6, r6, hf6⟩)
    · have hat6 := hat5.fr hf6 (fun h => by have := hfp _ h; omega)
      have hd6 : DpAt w6 w3.heap.size _ A.dump := hd5.fr hf6 fun b h1 h2 h => by have := hfp b h; omega
      have hx06 : Ext w w6 := b5.ext.trans' hf6 fun b hb e => by have := b5.ars.lof b e; have := b5.lo0; omega
      have hlat := hat6.lt
      have own6 : OwnN w6 w.heap.size (.slice (some ⟨mb, mo, none⟩) ms.length cv) ms := Own.of_heap b5.own fun b hb => hf6.block b (World.ownsRow.lt b5.own b hb).2 (b5.dis b hb)
      have hwfR := g6.ar.wf
      have hdl2 := (dump_len hwfR).1
      have h2f : 3 ≤ A.free := h2f
      have hfr6 : R.free + 3 = A.free := hfr6
      have hF1 : A.used rt = true := hF.1
      repeat (first | refine sp ?_ | (refine is_load ?_; refine ld ?_) | (refine is_store ?_; refine sr ?_) | (refine is_alloc ?_; refine al ?_) | (refine is_box ?_; refine bx ?_) | (refine isl_load ?_; refine ldl ?_) | (refine isl_store ?_; refine srl ?_) | (refine isl_alloc ?_; refine all' ?_) | (refine isl_box ?_; refine bxl ?_))
      refine go_call rfl rfl (p_Dump w6 lo p q6 R g6.ar) ?_
      rintro _ w7 ⟨hd7, hx7⟩
      obtain ⟨s3, c3, s4, c4, rfl, _, _⟩ := hd7.b
      have hat7 := hat6.ext hx7
      have hl67 := hx7.size
      repeat (first | refine sp ?_ | (refine is_load ?_; refine ld ?_) | (refine is_store ?_; refine sr ?_) | (refine is_alloc ?_; refine al ?_) | (refine is_box ?_; refine bx ?_) | (refine isl_load ?_; refine ldl ?_) | (refine isl_store ?_; refine srl ?_) | (refine isl_alloc ?_; refine all' ?_) | (refine isl_box ?_; refine bxl ?_))
      refine go_name (F := fun w8 => At w8 w7.heap.size [.slice s3 R.dump.slots.length c3, .slice s4 R.dump.free.length c4] 31 ∧ At w8 bd [.slice s1 A.dump.slots.length c1, .slice s2 A.dump.free.length c2] 31 ∧ Ext w7 w8) ⟨by (repeat (first | assumption | (refine At.new' (by (first | omega | (simp; done) | (simp; omega))) _ _) | apply At.alloc | apply At.drewN | apply At.setRow | (apply At.setRow_neF; first | assumption | (apply Ne.symm; assumption) | omega) | (apply At.extF; assumption))), by (repeat (first | assumption | (refine At.new' (by (first | omega | (simp; done) | (simp; omega))) _ _) | apply At.alloc | apply At.drewN | apply At.setRow | (apply At.setRow_neF; first | assumption | (apply Ne.symm; assumption) | omega) | (apply At.extF; assumption))), by (repeat (first | exact Fr.refl _ _ | assumption | apply Fr.drewN | apply Fr.alloc | (apply Fr.transF; assumption) | (refine Fr.setRow ?_ _ (by first | exact Or.inr (by (first | omega | (simp; done) | (simp; omega))) | (exact Or.inl (by first | assumption | (simp; done)))))))⟩ ?_
      rintro w8 ⟨hn8, ha8, hx8⟩
      have hdA := (hd6.ext hx7).ext hx8
      have hdN := hd7.ext hx8
      generalize w7.heap.size = bn at *
      refine go_call rfl rfl (c_formed w8 _ _ A _ rt 2 sndA hdA hrl hk1) ?_
      rintro _ w9 ⟨⟨bb, rfl, hbb⟩, hx9⟩
      obtain rfl : bb = true := hbb.2 hF
      have hn9 := hn8.ext hx9
      have ha9 := ha8.ext hx9
      replace hdA := hdA.ext hx9
      replace hdN := hdN.ext hx9
      have hx69 := (hx7.trans hx8).trans hx9
      have hz9 : Ext w9 w9 := Fr.refl _ _
      obtain ⟨X, hX⟩ : ∃ X, A.node rt = X := ⟨_, rfl⟩
      have hnl := nodeOf_lt sndA rt
      rw [nodeOf_us hF1, hX] at hnl
      have hXr := hnl.2
      have hXl := hnl.1
      obtain ⟨M, hM⟩ : ∃ M, A.nodeOf X.right = M := ⟨_, rfl⟩
      have hMl := (nodeOf_lt sndA X.right).1
      rw [hM] at hMl
      obtain ⟨M2, hM2⟩ : ∃ M2, A.nodeOf M.left = M2 := ⟨_, rfl⟩
      have hF2 : A.used X.right = true := by rw [← hX]; exact hF.2.1
      have hMn : A.node X.right = M := by rw [← nodeOf_us hF2]; exact hM
      have hF3 : A.used M.left = true := by rw [← hMn, ← hX]; exact hF.2.2
      have hM2n : A.node M.left = M2 := by rw [← nodeOf_us hF3]; exact hM2
      obtain ⟨j, kk, n1, n2, n3⟩ := hG
      simp only [hX, hMn, hM2n] at n1 n2 n3
      obtain ⟨Y, hY⟩ : ∃ Y, R.node o = Y := ⟨_, rfl⟩
      obtain ⟨U, hU⟩ : ∃ U, R.node j = U := ⟨_, rfl⟩
      obtain ⟨V, hV⟩ : ∃ V, R.node kk = V := ⟨_, rfl⟩
      have y1 := n1.key; have y2 := n1.val; have y3 := n1.left; have y4 := n1.right
      have u1 := n2.key; have u2 := n2.val; have u3 := n2.left; have u4 := n2.right
      have v1 := n3.key; have v2 := n3.val; have v3 := n3.left; have v4 := n3.right
      rw [hY] at y1 y2 y3 y4
      rw [hU] at u1 u2 u3 u4
      rw [hV] at v1 v2 v3 v4
      have hol := used_lt hwfR (Or.inr n1.use)
      have hjl := used_lt hwfR (Or.inr n2.use)
      have hkl := used_lt hwfR (Or.inr n3.use)
      repeat (first | refine sp ?_ | (refine is_load ?_; refine ld ?_) | (refine is_store ?_; refine sr ?_) | (refine is_alloc ?_; refine al ?_) | (refine is_box ?_; refine bx ?_) | (refine isl_load ?_; refine ldl ?_) | (refine isl_store ?_; refine srl ?_) | (refine isl_alloc ?_; refine all' ?_) | (refine isl_box ?_; refine bxl ?_))
      refine go_call rfl rfl (c_at12 w9 _ _ A.dump rt (hdA.ext hz9) hdl hrl) ?_
      rintro _ w10 ⟨rfl, hx10⟩
      rw [dump_nd hwf, nodeOf_us hF1, hX]
      have ha10 := ha9.ext hx10
      have hn10 := hn9.ext hx10
      have hsz10 := hx10.size
      have hlta10 := ha10.lt
      have hltn10 := hn10.lt
      unfold Nd.cells
      repeat (first | refine sp ?_ | (refine is_load ?_; refine ld ?_) | (refine is_store ?_; refine sr ?_) | (refine is_alloc ?_; refine al ?_) | (refine is_box ?_; refine bx ?_) | (refine isl_load ?_; refine ldl ?_) | (refine isl_store ?_; refine srl ?_) | (refine isl_alloc ?_; refine all' ?_) | (refine isl_box ?_; refine bxl ?_))
      refine go_name (F := fun w11 => At w11 bd [.slice s1 A.dump.slots.length c1, .slice s2 A.dump.free.length c2] 31 ∧ At w11 bn [.slice s3 R.dump.slots.length c3, .slice s4 R.dump.free.length c4] 31 ∧ At w11 w10.heap.size [.int .i64 X.key, .int .i64 X.val, .int .u32 (X.left : Int), .int .u32 (X.right : Int), .int .i64 X.size, .int .i64 X.sum, .int .i64 X.mn, .int .i64 X.mx] 41 ∧ Ext w10 w11) ⟨by (repeat (first | assumption | (refine At.new' (by (first | omega | (simp; done) | (simp; omega))) _ _) | apply At.alloc | apply At.drewN | apply At.setRow | (apply At.setRow_neF; first | assumption | (apply Ne.symm; assumption) | omega) | (apply At.extF; assumption))), by (repeat (first | assumption | (refine At.new' (by (first | omega | (simp; done) | (simp; omega))) _ _) | apply At.alloc | apply At.drewN | apply At.setRow | (apply At.setRow_neF; first | assumption | (apply Ne.symm; assumption) | omega) | (apply At.extF; assumption))), by (repeat (first | assumption | (refine At.new' (by (first | omega | (simp; done) | (simp; omega))) _ _) | apply At.alloc | apply At.drewN | apply At.setRow | (apply At.setRow_neF; first | assumption | (apply Ne.symm; assumption) | omega) | (apply At.extF; assumption))), by (repeat (first | exact Fr.refl _ _ | assumption | apply Fr.drewN | apply Fr.alloc | (apply Fr.transF; assumption) | (refine Fr.setRow ?_ _ (by first | exact Or.inr (by (first | omega | (simp; done) | (simp; omega))) | (exact Or.inl (by first | assumption | (simp; done)))))))⟩ ?_
      rintro w11 ⟨ha11, hn11, hqX11, hx11⟩
      have hz11 := (hz9.trans hx10).trans hx11
      have hl11 := hqX11.lt
      generalize w10.heap.size = bx at *
      repeat (first | refine sp ?_ | (refine is_load ?_; refine ld ?_) | (refine is_store ?_; refine sr ?_) | (refine is_alloc ?_; refine al ?_) | (refine is_box ?_; refine bx ?_) | (refine isl_load ?_; refine ldl ?_) | (refine isl_store ?_; refine srl ?_) | (refine isl_alloc ?_; refine all' ?_) | (refine isl_box ?_; refine bxl ?_))
      refine go_cut (G := Nat × Nat × Nat) [20, 21, 22] (fun ⟨x, y, z⟩ => [ptr x, ptr y, ptr z]) [(2, .bool false), (3, .int .u8 (S : Int)), (9, ptr p), (10, .slice (some ⟨mb, mo, none⟩) ms.length cv), (13, .int .u32 (rt : Int)), (14, ptr bd), (15, .int .u32 (o : Int)), (17, ptr bn), (19, ptr bx)]
        (fun ⟨x, y, z⟩ w' => At w' x [.int .i64 X.key, .int .i64 X.val, .int .u32 (X.left : Int), .int .u32 (X.right : Int), .int .i64 X.size, .int .i64 X.sum, .int .i64 X.mn, .int .i64 X.mx] 41 ∧ At w' y [.int .i64 M2.key, .int .i64 M2.val, .int .u32 (M2.left : Int), .int .u32 (M2.right : Int), .int .i64 M2.size, .int .i64 M2.sum, .int .i64 M2.mn, .int .i64 M2.mx] 41 ∧ At w' z [.int .i64 M.key, .int .i64 M.val, .int .u32 (M.left : Int), .int .u32 (M.right : Int), .int .i64 M.size, .int .i64 M.sum, .int .i64 M.mn, .int .i64 M.mx] 41 ∧ Ext w11 w' ∧ w11.heap.size ≤ x ∧ w11.heap.size ≤ y ∧ w11.heap.size ≤ z ∧ x ≠ y ∧ x ≠ z ∧ y ≠ z) ?_ ?_
      · skip
        have cM : ∀ y, Ext w11 y → Calls Try.prog 18 [.agg ⟨[.slice s1 A.dump.slots.length c1, .slice s2 A.dump.free.length c2]⟩, .int .u32 (X.right : Int)].toArray y (Ret fun v w' => v = .agg ⟨[.int .i64 M.key, .int .i64 M.val, .int .u32 (M.left : Int), .int .u32 (M.right : Int), .int .i64 M.size, .int .i64 M.sum, .int .i64 M.mn, .int .i64 M.mx]⟩ ∧ Ext y w') := fun y hy => (c_at12 y _ _ A.dump X.right (hdA.ext (hz11.trans hy)) hdl hXr).mono fun e z hv => by
          obtain ⟨v, rfl, rfl, hf⟩ := hv
          rw [dump_nd hwf, hM]
          exact ⟨_, rfl, rfl, hf⟩
        have cM2 : ∀ y, Ext w11 y → Calls Try.prog 18 [.agg ⟨[.slice s1 A.dump.slots.length c1, .slice s2 A.dump.free.length c2]⟩, .int .u32 (M.left : Int)].toArray y (Ret fun v w' => v = .agg ⟨[.int .i64 M2.key, .int .i64 M2.val, .int .u32 (M2.left : Int), .int .u32 (M2.right : Int), .int .i64 M2.size, .int .i64 M2.sum, .int .i64 M2.mn, .int .i64 M2.mx]⟩ ∧ Ext y w') := fun y hy => (c_at12 y _ _ A.dump M.left (hdA.ext (hz11.trans hy)) hdl hMl).mono fun e z hv => by
          obtain ⟨v, rfl, rfl, hf⟩ := hv
          rw [dump_nd hwf, hM2]
          exact ⟨_, rfl, rfl, hf⟩
        refine go_sched (Ext w11) (.op 0 (.op 1 (.op 2 (.op 3 (.op 4 (.op 8 (.op 9 (.op 10 (.alt 5 (.op 6 (.alt 7 (.alt 11 (.alt 12 (.alt 13 (.op 14 (.op 15 (.op 16 (.op 17 (.fin))))) (.op 14 (.op 13 (.op 15 (.op 16 (.op 17 (.fin))))))) (.alt 13 (.alt 12 (.op 14 (.op 15 (.op 16 (.op 17 (.fin))))) (.op 14 (.op 12 (.op 15 (.op 16 (.op 17 (.fin))))))) (.op 14 (.alt 12 (.op 13 (.op 15 (.op 16 (.op 17 (.fin))))) (.op 13 (.op 12 (.op 15 (.op 16 (.op 17 (.fin)))))))))) (.alt 12 (.alt 11 (.alt 13 (.op 14 (.op 15 (.op 16 (.op 17 (.fin))))) (.op 14 (.op 13 (.op 15 (.op 16 (.op 17 (.fin))))))) (.alt 13 (.alt 11 (.op 14 (.op 15 (.op 16 (.op 17 (.fin))))) (.op 14 (.op 11 (.op 15 (.op 16 (.op 17 (.fin))))))) (.op 14 (.alt 11 (.op 13 (.op 15 (.op 16 (.op 17 (.fin))))) (.op 13 (.op 11 (.op 15 (.op 16 (.op 17 (.fin)))))))))) (.alt 13 (.alt 11 (.alt 12 (.op 14 (.op 15 (.op 16 (.op 17 (.fin))))) (.op 14 (.op 12 (.op 15 (.op 16 (.op 17 (.fin))))))) (.alt 12 (.alt 11 (.op 14 (.op 15 (.op 16 (.op 17 (.fin))))) (.op 14 (.op 11 (.op 15 (.op 16 (.op 17 (.fin))))))) (.op 14 (.alt 11 (.op 12 (.op 15 (.op 16 (.op 17 (.fin))))) (.op 12 (.op 11 (.op 15 (.op 16 (.op 17 (.fin)))))))))) (.op 14 (.alt 11 (.alt 12 (.op 13 (.op 15 (.op 16 (.op 17 (.fin))))) (.op 13 (.op 12 (.op 15 (.op 16 (.op 17 (.fin))))))) (.alt 12 (.alt 11 (.op 13 (.op 15 (.op 16 (.op 17 (.fin))))) (.op 13 (.op 11 (.op 15 (.op 16 (.op 17 (.fin))))))) (.op 13 (.alt 11 (.op 12 (.op 15 (.op 16 (.op 17 (.fin))))) (.op 12 (.op 11 (.op 15 (.op 16 (.op 17 (.fin)))))))))))))) (.alt 12 (.alt 7 (.alt 11 (.alt 13 (.op 14 (.op 15 (.op 16 (.op 17 (.fin))))) (.op 14 (.op 13 (.op 15 (.op 16 (.op 17 (.fin))))))) (.alt 13 (.alt 11 (.op 14 (.op 15 (.op 16 (.op 17 (.fin))))) (.op 14 (.op 11 (.op 15 (.op 16 (.op 17 (.fin))))))) (.op 14 (.alt 11 (.op 13 (.op 15 (.op 16 (.op 17 (.fin))))) (.op 13 (.op 11 (.op 15 (.op 16 (.op 17 (.fin)))))))))) (.alt 13 (.alt 7 (.alt 11 (.op 14 (.op 15 (.op 16 (.op 17 (.fin))))) (.op 14 (.op 11 (.op 15 (.op 16 (.op 17 (.fin))))))) (.op 14 (.op 7 (.op 11 (.op 15 (.op 16 (.op 17 (.fin)))))))) (.op 14 (.alt 7 (.alt 11 (.op 13 (.op 15 (.op 16 (.op 17 (.fin))))) (.op 13 (.op 11 (.op 15 (.op 16 (.op 17 (.fin))))))) (.op 13 (.op 7 (.op 11 (.op 15 (.op 16 (.op 17 (.fin))))))))))) (.alt 13 (.alt 7 (.alt 11 (.alt 12 (.op 14 (.op 15 (.op 16 (.op 17 (.fin))))) (.op 14 (.op 12 (.op 15 (.op 16 (.op 17 (.fin))))))) (.alt 12 (.alt 11 (.op 14 (.op 15 (.op 16 (.op 17 (.fin))))) (.op 14 (.op 11 (.op 15 (.op 16 (.op 17 (.fin))))))) (.op 14 (.alt 11 (.op 12 (.op 15 (.op 16 (.op 17 (.fin))))) (.op 12 (.op 11 (.op 15 (.op 16 (.op 17 (.fin)))))))))) (.alt 12 (.alt 7 (.alt 11 (.op 14 (.op 15 (.op 16 (.op 17 (.fin))))) (.op 14 (.op 11 (.op 15 (.op 16 (.op 17 (.fin))))))) (.op 14 (.op 7 (.op 11 (.op 15 (.op 16 (.op 17 (.fin)))))))) (.op 14 (.alt 7 (.alt 11 (.op 12 (.op 15 (.op 16 (.op 17 (.fin))))) (.op 12 (.op 11 (.op 15 (.op 16 (.op 17 (.fin))))))) (.op 12 (.op 7 (.op 11 (.op 15 (.op 16 (.op 17 (.fin))))))))))) (.op 14 (.alt 7 (.alt 11 (.alt 12 (.op 13 (.op 15 (.op 16 (.op 17 (.fin))))) (.op 13 (.op 12 (.op 15 (.op 16 (.op 17 (.fin))))))) (.alt 12 (.alt 11 (.op 13 (.op 15 (.op 16 (.op 17 (.fin))))) (.op 13 (.op 11 (.op 15 (.op 16 (.op 17 (.fin))))))) (.op 13 (.alt 11 (.op 12 (.op 15 (.op 16 (.op 17 (.fin))))) (.op 12 (.op 11 (.op 15 (.op 16 (.op 17 (.fin)))))))))) (.alt 12 (.alt 7 (.alt 11 (.op 13 (.op 15 (.op 16 (.op 17 (.fin))))) (.op 13 (.op 11 (.op 15 (.op 16 (.op 17 (.fin))))))) (.op 13 (.op 7 (.op 11 (.op 15 (.op 16 (.op 17 (.fin)))))))) (.op 13 (.alt 7 (.alt 11 (.op 12 (.op 15 (.op 16 (.op 17 (.fin))))) (.op 12 (.op 11 (.op 15 (.op 16 (.op 17 (.fin))))))) (.op 12 (.op 7 (.op 11 (.op 15 (.op 16 (.op 17 (.fin)))))))))))))))) (.alt 12 (.alt 5 (.op 6 (.alt 7 (.alt 11 (.alt 13 (.op 14 (.op 15 (.op 16 (.op 17 (.fin))))) (.op 14 (.op 13 (.op 15 (.op 16 (.op 17 (.fin))))))) (.alt 13 (.alt 11 (.op 14 (.op 15 (.op 16 (.op 17 (.fin))))) (.op 14 (.op 11 (.op 15 (.op 16 (.op 17 (.fin))))))) (.op 14 (.alt 11 (.op 13 (.op 15 (.op 16 (.op 17 (.fin))))) (.op 13 (.op 11 (.op 15 (.op 16 (.op 17 (.fin)))))))))) (.alt 13 (.alt 7 (.alt 11 (.op 14 (.op 15 (.op 16 (.op 17 (.fin))))) (.op 14 (.op 11 (.op 15 (.op 16 (.op 17 (.fin))))))) (.op 14 (.op 7 (.op 11 (.op 15 (.op 16 (.op 17 (.fin)))))))) (.op 14 (.alt 7 (.alt 11 (.op 13 (.op 15 (.op 16 (.op 17 (.fin))))) (.op 13 (.op 11 (.op 15 (.op 16 (.op 17 (.fin))))))) (.op 13 (.op 7 (.op 11 (.op 15 (.op 16 (.op 17 (.fin)))))))))))) (.alt 13 (.alt 5 (.op 6 (.alt 7 (.alt 11 (.op 14 (.op 15 (.op 16 (.op 17 (.fin))))) (.op 14 (.op 11 (.op 15 (.op 16 (.op 17 (.fin))))))) (.op 14 (.op 7 (.op 11 (.op 15 (.op 16 (.op 17 (.fin))))))))) (.op 14 (.op 5 (.op 6 (.op 7 (.op 11 (.op 15 (.op 16 (.op 17 (.fin)))))))))) (.op 14 (.alt 5 (.op 6 (.alt 7 (.alt 11 (.op 13 (.op 15 (.op 16 (.op 17 (.fin))))) (.op 13 (.op 11 (.op 15 (.op 16 (.op 17 (.fin))))))) (.op 13 (.op 7 (.op 11 (.op 15 (.op 16 (.op 17 (.fin))))))))) (.op 13 (.op 5 (.op 6 (.op 7 (.op 11 (.op 15 (.op 16 (.op 17 (.fin))))))))))))) (.alt 13 (.alt 5 (.op 6 (.alt 7 (.alt 11 (.alt 12 (.op 14 (.op 15 (.op 16 (.op 17 (.fin))))) (.op 14 (.op 12 (.op 15 (.op 16 (.op 17 (.fin))))))) (.alt 12 (.alt 11 (.op 14 (.op 15 (.op 16 (.op 17 (.fin))))) (.op 14 (.op 11 (.op 15 (.op 16 (.op 17 (.fin))))))) (.op 14 (.alt 11 (.op 12 (.op 15 (.op 16 (.op 17 (.fin))))) (.op 12 (.op 11 (.op 15 (.op 16 (.op 17 (.fin)))))))))) (.alt 12 (.alt 7 (.alt 11 (.op 14 (.op 15 (.op 16 (.op 17 (.fin))))) (.op 14 (.op 11 (.op 15 (.op 16 (.op 17 (.fin))))))) (.op 14 (.op 7 (.op 11 (.op 15 (.op 16 (.op 17 (.fin)))))))) (.op 14 (.alt 7 (.alt 11 (.op 12 (.op 15 (.op 16 (.op 17 (.fin))))) (.op 12 (.op 11 (.op 15 (.op 16 (.op 17 (.fin))))))) (.op 12 (.op 7 (.op 11 (.op 15 (.op 16 (.op 17 (.fin)))))))))))) (.alt 12 (.alt 5 (.op 6 (.alt 7 (.alt 11 (.op 14 (.op 15 (.op 16 (.op 17 (.fin))))) (.op 14 (.op 11 (.op 15 (.op 16 (.op 17 (.fin))))))) (.op 14 (.op 7 (.op 11 (.op 15 (.op 16 (.op 17 (.fin))))))))) (.op 14 (.op 5 (.op 6 (.op 7 (.op 11 (.op 15 (.op 16 (.op 17 (.fin)))))))))) (.op 14 (.alt 5 (.op 6 (.alt 7 (.alt 11 (.op 12 (.op 15 (.op 16 (.op 17 (.fin))))) (.op 12 (.op 11 (.op 15 (.op 16 (.op 17 (.fin))))))) (.op 12 (.op 7 (.op 11 (.op 15 (.op 16 (.op 17 (.fin))))))))) (.op 12 (.op 5 (.op 6 (.op 7 (.op 11 (.op 15 (.op 16 (.op 17 (.fin))))))))))))) (.op 14 (.alt 5 (.op 6 (.alt 7 (.alt 11 (.alt 12 (.op 13 (.op 15 (.op 16 (.op 17 (.fin))))) (.op 13 (.op 12 (.op 15 (.op 16 (.op 17 (.fin))))))) (.alt 12 (.alt 11 (.op 13 (.op 15 (.op 16 (.op 17 (.fin))))) (.op 13 (.op 11 (.op 15 (.op 16 (.op 17 (.fin))))))) (.op 13 (.alt 11 (.op 12 (.op 15 (.op 16 (.op 17 (.fin))))) (.op 12 (.op 11 (.op 15 (.op 16 (.op 17 (.fin)))))))))) (.alt 12 (.alt 7 (.alt 11 (.op 13 (.op 15 (.op 16 (.op 17 (.fin))))) (.op 13 (.op 11 (.op 15 (.op 16 (.op 17 (.fin))))))) (.op 13 (.op 7 (.op 11 (.op 15 (.op 16 (.op 17 (.fin)))))))) (.op 13 (.alt 7 (.alt 11 (.op 12 (.op 15 (.op 16 (.op 17 (.fin))))) (.op 12 (.op 11 (.op 15 (.op 16 (.op 17 (.fin))))))) (.op 12 (.op 7 (.op 11 (.op 15 (.op 16 (.op 17 (.fin)))))))))))) (.alt 12 (.alt 5 (.op 6 (.alt 7 (.alt 11 (.op 13 (.op 15 (.op 16 (.op 17 (.fin))))) (.op 13 (.op 11 (.op 15 (.op 16 (.op 17 (.fin))))))) (.op 13 (.op 7 (.op 11 (.op 15 (.op 16 (.op 17 (.fin))))))))) (.op 13 (.op 5 (.op 6 (.op 7 (.op 11 (.op 15 (.op 16 (.op 17 (.fin)))))))))) (.op 13 (.alt 5 (.op 6 (.alt 7 (.alt 11 (.op 12 (.op 15 (.op 16 (.op 17 (.fin))))) (.op 12 (.op 11 (.op 15 (.op 16 (.op 17 (.fin))))))) (.op 12 (.op 7 (.op 11 (.op 15 (.op 16 (.op 17 (.fin))))))))) (.op 12 (.op 5 (.op 6 (.op 7 (.op 11 (.op 15 (.op 16 (.op 17 (.fin))))))))))))))))))))))))) Try.follows (by kernel_rfl) (by kernel_rfl) (by kernel_rfl) ((Fr.refl _ _).drewN 1) ?_
        have h : Bk 41 w11 (w11.drewN 1) [] := Bk.nil ((Fr.refl _ _).drewN 1)
        repeat (first | refine sp ?_ | (refine is_load ?_; refine ld ?_) | (refine is_store ?_; refine sr ?_) | (refine is_alloc ?_; refine al ?_) | (refine is_box ?_; refine bx ?_) | (refine isl_load ?_; refine ldl ?_) | (refine isl_store ?_; refine srl ?_) | (refine isl_alloc ?_; refine all' ?_) | (refine isl_box ?_; refine bxl ?_))
        refine go_alt rfl (ev_call rfl rfl h cM fun w h => ?_) ?_
        · refine go_op rfl ?_
          refine sp ?_
          refine gol_nil ?_
          refine go_alt rfl (ev_call rfl rfl h cM2 fun w h => ?_) ?_
          · refine go_alt rfl (ev_call rfl rfl h cM fun w h => ?_) ?_
            · refine go_alt rfl (ev_al rfl h fun w h => ?_) ?_
              · refine go_alt rfl (ev_al rfl h fun w h => ?_) ?_
                · refine go_op rfl (ev_al rfl h fun w h => ?_)
                  refine go_op rfl (ev_st (i := 2) rfl rfl h rfl rfl rfl rfl rfl fun w h => ?_)
                  refine go_op rfl (ev_st (i := 1) rfl rfl h rfl rfl rfl rfl rfl fun w h => ?_)
                  refine go_op rfl (ev_st (i := 0) rfl rfl h rfl rfl rfl rfl rfl fun w h => ?_)
                  exact go_fin (go_stop (G := Nat × Nat × Nat) (_, _, _) rfl ⟨rfl, rfl, rfl, rfl, rfl, rfl, rfl, rfl, rfl, trivial⟩ (Bk.out (i := 2) (j := 1) (k := 0) h rfl rfl rfl (by decide) (by decide) (by decide)) trivial)
                refine go_op rfl (ev_al rfl h fun w h => ?_)
                refine go_op rfl (ev_al rfl h fun w h => ?_)
                refine go_op rfl (ev_st (i := 2) rfl rfl h rfl rfl rfl rfl rfl fun w h => ?_)
                refine go_op rfl (ev_st (i := 0) rfl rfl h rfl rfl rfl rfl rfl fun w h => ?_)
                refine go_op rfl (ev_st (i := 1) rfl rfl h rfl rfl rfl rfl rfl fun w h => ?_)
                exact go_fin (go_stop (G := Nat × Nat × Nat) (_, _, _) rfl ⟨rfl, rfl, rfl, rfl, rfl, rfl, rfl, rfl, rfl, trivial⟩ (Bk.out (i := 2) (j := 0) (k := 1) h rfl rfl rfl (by decide) (by decide) (by decide)) trivial)
              refine go_alt rfl (ev_al rfl h fun w h => ?_) ?_
              · refine go_alt rfl (ev_al rfl h fun w h => ?_) ?_
                · refine go_op rfl (ev_al rfl h fun w h => ?_)
                  refine go_op rfl (ev_st (i := 1) rfl rfl h rfl rfl rfl rfl rfl fun w h => ?_)
                  refine go_op rfl (ev_st (i := 2) rfl rfl h rfl rfl rfl rfl rfl fun w h => ?_)
                  refine go_op rfl (ev_st (i := 0) rfl rfl h rfl rfl rfl rfl rfl fun w h => ?_)
                  exact go_fin (go_stop (G := Nat × Nat × Nat) (_, _, _) rfl ⟨rfl, rfl, rfl, rfl, rfl, rfl, rfl, rfl, rfl, trivial⟩ (Bk.out (i := 1) (j := 2) (k := 0) h rfl rfl rfl (by decide) (by decide) (by decide)) trivial)
                refine go_op rfl (ev_al rfl h fun w h => ?_)
                refine go_op rfl (ev_al rfl h fun w h => ?_)
                refine go_op rfl (ev_st (i := 0) rfl rfl h rfl rfl rfl rfl rfl fun w h => ?_)
                refine go_op rfl (ev_st (i := 2) rfl rfl h rfl rfl rfl rfl rfl fun w h => ?_)
                refine go_op rfl (ev_st (i := 1) rfl rfl h rfl rfl rfl rfl rfl fun w h => ?_)
                exact go_fin (go_stop (G := Nat × Nat × Nat) (_, _, _) rfl ⟨rfl, rfl, rfl, rfl, rfl, rfl, rfl, rfl, rfl, trivial⟩ (Bk.out (i := 0) (j := 2) (k := 1) h rfl rfl rfl (by decide) (by decide) (by decide)) trivial)
              refine go_op rfl (ev_al rfl h fun w h => ?_)
              refine go_alt rfl (ev_al rfl h fun w h => ?_) ?_
              · refine go_op rfl (ev_al rfl h fun w h => ?_)
                refine go_op rfl (ev_st (i := 1) rfl rfl h rfl rfl rfl rfl rfl fun w h => ?_)
                refine go_op rfl (ev_st (i := 0) rfl rfl h rfl rfl rfl rfl rfl fun w h => ?_)
                refine go_op rfl (ev_st (i := 2) rfl rfl h rfl rfl rfl rfl rfl fun w h => ?_)
                exact go_fin (go_stop (G := Nat × Nat × Nat) (_, _, _) rfl ⟨rfl, rfl, rfl, rfl, rfl, rfl, rfl, rfl, rfl, trivial⟩ (Bk.out (i := 1) (j := 0) (k := 2) h rfl rfl rfl (by decide) (by decide) (by decide)) trivial)
              refine go_op rfl (ev_al rfl h fun w h => ?_)
              refine go_op rfl (ev_al rfl h fun w h => ?_)
              refine go_op rfl (ev_st (i := 0) rfl rfl h rfl rfl rfl rfl rfl fun w h => ?_)
              refine go_op rfl (ev_st (i := 1) rfl rfl h rfl rfl rfl rfl rfl fun w h => ?_)
              refine go_op rfl (ev_st (i := 2) rfl rfl h rfl rfl rfl rfl rfl fun w h => ?_)
              exact go_fin (go_stop (G := Nat × Nat × Nat) (_, _, _) rfl ⟨rfl, rfl, rfl, rfl, rfl, rfl, rfl, rfl, rfl, trivial⟩ (Bk.out (i := 0) (j := 1) (k := 2) h rfl rfl rfl (by decide) (by decide) (by decide)) trivial)
            refine go_alt rfl (ev_al rfl h fun w h => ?_) ?_
            · refine go_alt rfl (ev_call rfl rfl h cM fun w h => ?_) ?_
              · refine go_alt rfl (ev_al rfl h fun w h => ?_) ?_
                · refine go_op rfl (ev_al rfl h fun w h => ?_)
                  refine go_op rfl (ev_st (i := 2) rfl rfl h rfl rfl rfl rfl rfl fun w h => ?_)
                  refine go_op rfl (ev_st (i := 1) rfl rfl h rfl rfl rfl rfl rfl fun w h => ?_)
                  refine go_op rfl (ev_st (i := 0) rfl rfl h rfl rfl rfl rfl rfl fun w h => ?_)
                  exact go_fin (go_stop (G := Nat × Nat × Nat) (_, _, _) rfl ⟨rfl, rfl, rfl, rfl, rfl, rfl, rfl, rfl, rfl, trivial⟩ (Bk.out (i := 2) (j := 1) (k := 0) h rfl rfl rfl (by decide) (by decide) (by decide)) trivial)
                refine go_op rfl (ev_al rfl h fun w h => ?_)
                refine go_op rfl (ev_al rfl h fun w h => ?_)
                refine go_op rfl (ev_st (i := 2) rfl rfl h rfl rfl rfl rfl rfl fun w h => ?_)
                refine go_op rfl (ev_st (i := 0) rfl rfl h rfl rfl rfl rfl rfl fun w h => ?_)
                refine go_op rfl (ev_st (i := 1) rfl rfl h rfl rfl rfl rfl rfl fun w h => ?_)
                exact go_fin (go_stop (G := Nat × Nat × Nat) (_, _, _) rfl ⟨rfl, rfl, rfl, rfl, rfl, rfl, rfl, rfl, rfl, trivial⟩ (Bk.out (i := 2) (j := 0) (k := 1) h rfl rfl rfl (by decide) (by decide) (by decide)) trivial)
              refine go_alt rfl (ev_al rfl h fun w h => ?_) ?_
              · refine go_alt rfl (ev_call rfl rfl h cM fun w h => ?_) ?_
                · refine go_op rfl (ev_al rfl h fun w h => ?_)
                  refine go_op rfl (ev_st (i := 2) rfl rfl h rfl rfl rfl rfl rfl fun w h => ?_)
                  refine go_op rfl (ev_st (i := 1) rfl rfl h rfl rfl rfl rfl rfl fun w h => ?_)
                  refine go_op rfl (ev_st (i := 0) rfl rfl h rfl rfl rfl rfl rfl fun w h => ?_)
                  exact go_fin (go_stop (G := Nat × Nat × Nat) (_, _, _) rfl ⟨rfl, rfl, rfl, rfl, rfl, rfl, rfl, rfl, rfl, trivial⟩ (Bk.out (i := 2) (j := 1) (k := 0) h rfl rfl rfl (by decide) (by decide) (by decide)) trivial)
                refine go_op rfl (ev_al rfl h fun w h => ?_)
                refine go_op rfl (ev_call rfl rfl h cM fun w h => ?_)
                refine go_op rfl (ev_st (i := 2) rfl rfl h rfl rfl rfl rfl rfl fun w h => ?_)
                refine go_op rfl (ev_st (i := 1) rfl rfl h rfl rfl rfl rfl rfl fun w h => ?_)
                refine go_op rfl (ev_st (i := 0) rfl rfl h rfl rfl rfl rfl rfl fun w h => ?_)
                exact go_fin (go_stop (G := Nat × Nat × Nat) (_, _, _) rfl ⟨rfl, rfl, rfl, rfl, rfl, rfl, rfl, rfl, rfl, trivial⟩ (Bk.out (i := 2) (j := 1) (k := 0) h rfl rfl rfl (by decide) (by decide) (by decide)) trivial)
              refine go_op rfl (ev_al rfl h fun w h => ?_)
              refine go_alt rfl (ev_call rfl rfl h cM fun w h => ?_) ?_
              · refine go_op rfl (ev_al rfl h fun w h => ?_)
                refine go_op rfl (ev_st (i := 2) rfl rfl h rfl rfl rfl rfl rfl fun w h => ?_)
                refine go_op rfl (ev_st (i := 0) rfl rfl h rfl rfl rfl rfl rfl fun w h => ?_)
                refine go_op rfl (ev_st (i := 1) rfl rfl h rfl rfl rfl rfl rfl fun w h => ?_)
                exact go_fin (go_stop (G := Nat × Nat × Nat) (_, _, _) rfl ⟨rfl, rfl, rfl, rfl, rfl, rfl, rfl, rfl, rfl, trivial⟩ (Bk.out (i := 2) (j := 0) (k := 1) h rfl rfl rfl (by decide) (by decide) (by decide)) trivial)
              refine go_op rfl (ev_al rfl h fun w h => ?_)
              refine go_op rfl (ev_call rfl rfl h cM fun w h => ?_)
              refine go_op rfl (ev_st (i := 2) rfl rfl h rfl rfl rfl rfl rfl fun w h => ?_)
              refine go_op rfl (ev_st (i := 0) rfl rfl h rfl rfl rfl rfl rfl fun w h => ?_)
              refine go_op rfl (ev_st (i := 1) rfl rfl h rfl rfl rfl rfl rfl fun w h => ?_)
              exact go_fin (go_stop (G := Nat × Nat × Nat) (_, _, _) rfl ⟨rfl, rfl, rfl, rfl, rfl, rfl, rfl, rfl, rfl, trivial⟩ (Bk.out (i := 2) (j := 0) (k := 1) h rfl rfl rfl (by decide) (by decide) (by decide)) trivial)
            refine go_alt rfl (ev_al rfl h fun w h => ?_) ?_
            · refine go_alt rfl (ev_call rfl rfl h cM fun w h => ?_) ?_
              · refine go_alt rfl (ev_al rfl h fun w h => ?_) ?_
                · refine go_op rfl (ev_al rfl h fun w h => ?_)
                  refine go_op rfl (ev_st (i := 1) rfl rfl h rfl rfl rfl rfl rfl fun w h => ?_)
                  refine go_op rfl (ev_st (i := 2) rfl rfl h rfl rfl rfl rfl rfl fun w h => ?_)
                  refine go_op rfl (ev_st (i := 0) rfl rfl h rfl rfl rfl rfl rfl fun w h => ?_)
                  exact go_fin (go_stop (G := Nat × Nat × Nat) (_, _, _) rfl ⟨rfl, rfl, rfl, rfl, rfl, rfl, rfl, rfl, rfl, trivial⟩ (Bk.out (i := 1) (j := 2) (k := 0) h rfl rfl rfl (by decide) (by decide) (by decide)) trivial)
                refine go_op rfl (ev_al rfl h fun w h => ?_)
                refine go_op rfl (ev_al rfl h fun w h => ?_)
                refine go_op rfl (ev_st (i := 0) rfl rfl h rfl rfl rfl rfl rfl fun w h => ?_)
                refine go_op rfl (ev_st (i := 2) rfl rfl h rfl rfl rfl rfl rfl fun w h => ?_)
                refine go_op rfl (ev_st (i := 1) rfl rfl h rfl rfl rfl rfl rfl fun w h => ?_)
                exact go_fin (go_stop (G := Nat × Nat × Nat) (_, _, _) rfl ⟨rfl, rfl, rfl, rfl, rfl, rfl, rfl, rfl, rfl, trivial⟩ (Bk.out (i := 0) (j := 2) (k := 1) h rfl rfl rfl (by decide) (by decide) (by decide)) trivial)
              refine go_alt rfl (ev_al rfl h fun w h => ?_) ?_
              · refine go_alt rfl (ev_call rfl rfl h cM fun w h => ?_) ?_
                · refine go_op rfl (ev_al rfl h fun w h => ?_)
                  refine go_op rfl (ev_st (i := 1) rfl rfl h rfl rfl rfl rfl rfl fun w h => ?_)
                  refine go_op rfl (ev_st (i := 2) rfl rfl h rfl rfl rfl rfl rfl fun w h => ?_)
                  refine go_op rfl (ev_st (i := 0) rfl rfl h rfl rfl rfl rfl rfl fun w h => ?_)
                  exact go_fin (go_stop (G := Nat × Nat × Nat) (_, _, _) rfl ⟨rfl, rfl, rfl, rfl, rfl, rfl, rfl, rfl, rfl, trivial⟩ (Bk.out (i := 1) (j := 2) (k := 0) h rfl rfl rfl (by decide) (by decide) (by decide)) trivial)
                refine go_op rfl (ev_al rfl h fun w h => ?_)
                refine go_op rfl (ev_call rfl rfl h cM fun w h => ?_)
                refine go_op rfl (ev_st (i := 1) rfl rfl h rfl rfl rfl rfl rfl fun w h => ?_)
                refine go_op rfl (ev_st (i := 2) rfl rfl h rfl rfl rfl rfl rfl fun w h => ?_)
                refine go_op rfl (ev_st (i := 0) rfl rfl h rfl rfl rfl rfl rfl fun w h => ?_)
                exact go_fin (go_stop (G := Nat × Nat × Nat) (_, _, _) rfl ⟨rfl, rfl, rfl, rfl, rfl, rfl, rfl, rfl, rfl, trivial⟩ (Bk.out (i := 1) (j := 2) (k := 0) h rfl rfl rfl (by decide) (by decide) (by decide)) trivial)
              refine go_op rfl (ev_al rfl h fun w h => ?_)
              refine go_alt rfl (ev_call rfl rfl h cM fun w h => ?_) ?_
              · refine go_op rfl (ev_al rfl h fun w h => ?_)
                refine go_op rfl (ev_st (i := 0) rfl rfl h rfl rfl rfl rfl rfl fun w h => ?_)
                refine go_op rfl (ev_st (i := 2) rfl rfl h rfl rfl rfl rfl rfl fun w h => ?_)
                refine go_op rfl (ev_st (i := 1) rfl rfl h rfl rfl rfl rfl rfl fun w h => ?_)
                exact go_fin (go_stop (G := Nat × Nat × Nat) (_, _, _) rfl ⟨rfl, rfl, rfl, rfl, rfl, rfl, rfl, rfl, rfl, trivial⟩ (Bk.out (i := 0) (j := 2) (k := 1) h rfl rfl rfl (by decide) (by decide) (by decide)) trivial)
              refine go_op rfl (ev_al rfl h fun w h => ?_)
              refine go_op rfl (ev_call rfl rfl h cM fun w h => ?_)
              refine go_op rfl (ev_st (i := 0) rfl rfl h rfl rfl rfl rfl rfl fun w h => ?_)
              refine go_op rfl (ev_st (i := 2) rfl rfl h rfl rfl rfl rfl rfl fun w h => ?_)
              refine go_op rfl (ev_st (i := 1) rfl rfl h rfl rfl rfl rfl rfl fun w h => ?_)
              exact go_fin (go_stop (G := Nat × Nat × Nat) (_, _, _) rfl ⟨rfl, rfl, rfl, rfl, rfl, rfl, rfl, rfl, rfl, trivial⟩ (Bk.out (i := 0) (j := 2) (k := 1) h rfl rfl rfl (by decide) (by decide) (by decide)) trivial)
            refine go_op rfl (ev_al rfl h fun w h => ?_)
            refine go_alt rfl (ev_call rfl rfl h cM fun w h => ?_) ?_
            · refine go_alt rfl (ev_al rfl h fun w h => ?_) ?_
              · refine go_op rfl (ev_al rfl h fun w h => ?_)
                refine go_op rfl (ev_st (i := 1) rfl rfl h rfl rfl rfl rfl rfl fun w h => ?_)
                refine go_op rfl (ev_st (i := 0) rfl rfl h rfl rfl rfl rfl rfl fun w h => ?_)
                refine go_op rfl (ev_st (i := 2) rfl rfl h rfl rfl rfl rfl rfl fun w h => ?_)
                exact go_fin (go_stop (G := Nat × Nat × Nat) (_, _, _) rfl ⟨rfl, rfl, rfl, rfl, rfl, rfl, rfl, rfl, rfl, trivial⟩ (Bk.out (i := 1) (j := 0) (k := 2) h rfl rfl rfl (by decide) (by decide) (by decide)) trivial)
              refine go_op rfl (ev_al rfl h fun w h => ?_)
              refine go_op rfl (ev_al rfl h fun w h => ?_)
              refine go_op rfl (ev_st (i := 0) rfl rfl h rfl rfl rfl rfl rfl fun w h => ?_)
              refine go_op rfl (ev_st (i := 1) rfl rfl h rfl rfl rfl rfl rfl fun w h => ?_)
              refine go_op rfl (ev_st (i := 2) rfl rfl h rfl rfl rfl rfl rfl fun w h => ?_)
              exact go_fin (go_stop (G := Nat × Nat × Nat) (_, _, _) rfl ⟨rfl, rfl, rfl, rfl, rfl, rfl, rfl, rfl, rfl, trivial⟩ (Bk.out (i := 0) (j := 1) (k := 2) h rfl rfl rfl (by decide) (by decide) (by decide)) trivial)
            refine go_alt rfl (ev_al rfl h fun w h => ?_) ?_
            · refine go_alt rfl (ev_call rfl rfl h cM fun w h => ?_) ?_
              · refine go_op rfl (ev_al rfl h fun w h => ?_)
                refine go_op rfl (ev_st (i := 1) rfl rfl h rfl rfl rfl rfl rfl fun w h => ?_)
                refine go_op rfl (ev_st (i := 0) rfl rfl h rfl rfl rfl rfl rfl fun w h => ?_)
                refine go_op rfl (ev_st (i := 2) rfl rfl h rfl rfl rfl rfl rfl fun w h => ?_)
                exact go_fin (go_stop (G := Nat × Nat × Nat) (_, _, _) rfl ⟨rfl, rfl, rfl, rfl, rfl, rfl, rfl, rfl, rfl, trivial⟩ (Bk.out (i := 1) (j := 0) (k := 2) h rfl rfl rfl (by decide) (by decide) (by decide)) trivial)
              refine go_op rfl (ev_al rfl h fun w h => ?_)
              refine go_op rfl (ev_call rfl rfl h cM fun w h => ?_)
              refine go_op rfl (ev_st (i := 1) rfl rfl h rfl rfl rfl rfl rfl fun w h => ?_)
              refine go_op rfl (ev_st (i := 0) rfl rfl h rfl rfl rfl rfl rfl fun w h => ?_)
              refine go_op rfl (ev_st (i := 2) rfl rfl h rfl rfl rfl rfl rfl fun w h => ?_)
              exact go_fin (go_stop (G := Nat × Nat × Nat) (_, _, _) rfl ⟨rfl, rfl, rfl, rfl, rfl, rfl, rfl, rfl, rfl, trivial⟩ (Bk.out (i := 1) (j := 0) (k := 2) h rfl rfl rfl (by decide) (by decide) (by decide)) trivial)
            refine go_op rfl (ev_al rfl h fun w h => ?_)
            refine go_alt rfl (ev_call rfl rfl h cM fun w h => ?_) ?_
            · refine go_op rfl (ev_al rfl h fun w h => ?_)
              refine go_op rfl (ev_st (i := 0) rfl rfl h rfl rfl rfl rfl rfl fun w h => ?_)
              refine go_op rfl (ev_st (i := 1) rfl rfl h rfl rfl rfl rfl rfl fun w h => ?_)
              refine go_op rfl (ev_st (i := 2) rfl rfl h rfl rfl rfl rfl rfl fun w h => ?_)
              exact go_fin (go_stop (G := Nat × Nat × Nat) (_, _, _) rfl ⟨rfl, rfl, rfl, rfl, rfl, rfl, rfl, rfl, rfl, trivial⟩ (Bk.out (i := 0) (j := 1) (k := 2) h rfl rfl rfl (by decide) (by decide) (by decide)) trivial)
            refine go_op rfl (ev_al rfl h fun w h => ?_)
            refine go_op rfl (ev_call rfl rfl h cM fun w h => ?_)
            refine go_op rfl (ev_st (i := 0) rfl rfl h rfl rfl rfl rfl rfl fun w h => ?_)
            refine go_op rfl (ev_st (i := 1) rfl rfl h rfl rfl rfl rfl rfl fun w h => ?_)
            refine go_op rfl (ev_st (i := 2) rfl rfl h rfl rfl rfl rfl rfl fun w h => ?_)
            exact go_fin (go_stop (G := Nat × Nat × Nat) (_, _, _) rfl ⟨rfl, rfl, rfl, rfl, rfl, rfl, rfl, rfl, rfl, trivial⟩ (Bk.out (i := 0) (j := 1) (k := 2) h rfl rfl rfl (by decide) (by decide) (by decide)) trivial)
          refine go_alt rfl (ev_al rfl h fun w h => ?_) ?_
          · refine go_alt rfl (ev_call rfl rfl h cM2 fun w h => ?_) ?_
            · refine go_alt rfl (ev_call rfl rfl h cM fun w h => ?_) ?_
              · refine go_alt rfl (ev_al rfl h fun w h => ?_) ?_
                · refine go_op rfl (ev_al rfl h fun w h => ?_)
                  refine go_op rfl (ev_st (i := 2) rfl rfl h rfl rfl rfl rfl rfl fun w h => ?_)
                  refine go_op rfl (ev_st (i := 1) rfl rfl h rfl rfl rfl rfl rfl fun w h => ?_)
                  refine go_op rfl (ev_st (i := 0) rfl rfl h rfl rfl rfl rfl rfl fun w h => ?_)
                  exact go_fin (go_stop (G := Nat × Nat × Nat) (_, _, _) rfl ⟨rfl, rfl, rfl, rfl, rfl, rfl, rfl, rfl, rfl, trivial⟩ (Bk.out (i := 2) (j := 1) (k := 0) h rfl rfl rfl (by decide) (by decide) (by decide)) trivial)
                refine go_op rfl (ev_al rfl h fun w h => ?_)
                refine go_op rfl (ev_al rfl h fun w h => ?_)
                refine go_op rfl (ev_st (i := 2) rfl rfl h rfl rfl rfl rfl rfl fun w h => ?_)
                refine go_op rfl (ev_st (i := 0) rfl rfl h rfl rfl rfl rfl rfl fun w h => ?_)
                refine go_op rfl (ev_st (i := 1) rfl rfl h rfl rfl rfl rfl rfl fun w h => ?_)
                exact go_fin (go_stop (G := Nat × Nat × Nat) (_, _, _) rfl ⟨rfl, rfl, rfl, rfl, rfl, rfl, rfl, rfl, rfl, trivial⟩ (Bk.out (i := 2) (j := 0) (k := 1) h rfl rfl rfl (by decide) (by decide) (by decide)) trivial)
              refine go_alt rfl (ev_al rfl h fun w h => ?_) ?_
              · refine go_alt rfl (ev_call rfl rfl h cM fun w h => ?_) ?_
                · refine go_op rfl (ev_al rfl h fun w h => ?_)
                  refine go_op rfl (ev_st (i := 2) rfl rfl h rfl rfl rfl rfl rfl fun w h => ?_)
                  refine go_op rfl (ev_st (i := 1) rfl rfl h rfl rfl rfl rfl rfl fun w h => ?_)
                  refine go_op rfl (ev_st (i := 0) rfl rfl h rfl rfl rfl rfl rfl fun w h => ?_)
                  exact go_fin (go_stop (G := Nat × Nat × Nat) (_, _, _) rfl ⟨rfl, rfl, rfl, rfl, rfl, rfl, rfl, rfl, rfl, trivial⟩ (Bk.out (i := 2) (j := 1) (k := 0) h rfl rfl rfl (by decide) (by decide) (by decide)) trivial)
                refine go_op rfl (ev_al rfl h fun w h => ?_)
                refine go_op rfl (ev_call rfl rfl h cM fun w h => ?_)
                refine go_op rfl (ev_st (i := 2) rfl rfl h rfl rfl rfl rfl rfl fun w h => ?_)
                refine go_op rfl (ev_st (i := 1) rfl rfl h rfl rfl rfl rfl rfl fun w h => ?_)
                refine go_op rfl (ev_st (i := 0) rfl rfl h rfl rfl rfl rfl rfl fun w h => ?_)
                exact go_fin (go_stop (G := Nat × Nat × Nat) (_, _, _) rfl ⟨rfl, rfl, rfl, rfl, rfl, rfl, rfl, rfl, rfl, trivial⟩ (Bk.out (i := 2) (j := 1) (k := 0) h rfl rfl rfl (by decide) (by decide) (by decide)) trivial)
              refine go_op rfl (ev_al rfl h fun w h => ?_)
              refine go_alt rfl (ev_call rfl rfl h cM fun w h => ?_) ?_
              · refine go_op rfl (ev_al rfl h fun w h => ?_)
                refine go_op rfl (ev_st (i := 2) rfl rfl h rfl rfl rfl rfl rfl fun w h => ?_)
                refine go_op rfl (ev_st (i := 0) rfl rfl h rfl rfl rfl rfl rfl fun w h => ?_)
                refine go_op rfl (ev_st (i := 1) rfl rfl h rfl rfl rfl rfl rfl fun w h => ?_)
                exact go_fin (go_stop (G := Nat × Nat × Nat) (_, _, _) rfl ⟨rfl, rfl, rfl, rfl, rfl, rfl, rfl, rfl, rfl, trivial⟩ (Bk.out (i := 2) (j := 0) (k := 1) h rfl rfl rfl (by decide) (by decide) (by decide)) trivial)
              refine go_op rfl (ev_al rfl h fun w h => ?_)
              refine go_op rfl (ev_call rfl rfl h cM fun w h => ?_)
              refine go_op rfl (ev_st (i := 2) rfl rfl h rfl rfl rfl rfl rfl fun w h => ?_)
              refine go_op rfl (ev_st (i := 0) rfl rfl h rfl rfl rfl rfl rfl fun w h => ?_)
              refine go_op rfl (ev_st (i := 1) rfl rfl h rfl rfl rfl rfl rfl fun w h => ?_)
              exact go_fin (go_stop (G := Nat × Nat × Nat) (_, _, _) rfl ⟨rfl, rfl, rfl, rfl, rfl, rfl, rfl, rfl, rfl, trivial⟩ (Bk.out (i := 2) (j := 0) (k := 1) h rfl rfl rfl (by decide) (by decide) (by decide)) trivial)
            refine go_alt rfl (ev_al rfl h fun w h => ?_) ?_
            · refine go_alt rfl (ev_call rfl rfl h cM2 fun w h => ?_) ?_
              · refine go_alt rfl (ev_call rfl rfl h cM fun w h => ?_) ?_
                · refine go_op rfl (ev_al rfl h fun w h => ?_)
                  refine go_op rfl (ev_st (i := 2) rfl rfl h rfl rfl rfl rfl rfl fun w h => ?_)
                  refine go_op rfl (ev_st (i := 1) rfl rfl h rfl rfl rfl rfl rfl fun w h => ?_)
                  refine go_op rfl (ev_st (i := 0) rfl rfl h rfl rfl rfl rfl rfl fun w h => ?_)
                  exact go_fin (go_stop (G := Nat × Nat × Nat) (_, _, _) rfl ⟨rfl, rfl, rfl, rfl, rfl, rfl, rfl, rfl, rfl, trivial⟩ (Bk.out (i := 2) (j := 1) (k := 0) h rfl rfl rfl (by decide) (by decide) (by decide)) trivial)
                refine go_op rfl (ev_al rfl h fun w h => ?_)
                refine go_op rfl (ev_call rfl rfl h cM fun w h => ?_)
                refine go_op rfl (ev_st (i := 2) rfl rfl h rfl rfl rfl rfl rfl fun w h => ?_)
                refine go_op rfl (ev_st (i := 1) rfl rfl h rfl rfl rfl rfl rfl fun w h => ?_)
                refine go_op rfl (ev_st (i := 0) rfl rfl h rfl rfl rfl rfl rfl fun w h => ?_)
                exact go_fin (go_stop (G := Nat × Nat × Nat) (_, _, _) rfl ⟨rfl, rfl, rfl, rfl, rfl, rfl, rfl, rfl, rfl, trivial⟩ (Bk.out (i := 2) (j := 1) (k := 0) h rfl rfl rfl (by decide) (by decide) (by decide)) trivial)
              refine go_op rfl (ev_al rfl h fun w h => ?_)
              refine go_op rfl (ev_call rfl rfl h cM2 fun w h => ?_)
              refine go_op rfl (ev_call rfl rfl h cM fun w h => ?_)
              refine go_op rfl (ev_st (i := 2) rfl rfl h rfl rfl rfl rfl rfl fun w h => ?_)
              refine go_op rfl (ev_st (i := 1) rfl rfl h rfl rfl rfl rfl rfl fun w h => ?_)
              refine go_op rfl (ev_st (i := 0) rfl rfl h rfl rfl rfl rfl rfl fun w h => ?_)
              exact go_fin (go_stop (G := Nat × Nat × Nat) (_, _, _) rfl ⟨rfl, rfl, rfl, rfl, rfl, rfl, rfl, rfl, rfl, trivial⟩ (Bk.out (i := 2) (j := 1) (k := 0) h rfl rfl rfl (by decide) (by decide) (by decide)) trivial)
            refine go_op rfl (ev_al rfl h fun w h => ?_)
            refine go_alt rfl (ev_call rfl rfl h cM2 fun w h => ?_) ?_
            · refine go_alt rfl (ev_call rfl rfl h cM fun w h => ?_) ?_
              · refine go_op rfl (ev_al rfl h fun w h => ?_)
                refine go_op rfl (ev_st (i := 2) rfl rfl h rfl rfl rfl rfl rfl fun w h => ?_)
                refine go_op rfl (ev_st (i := 0) rfl rfl h rfl rfl rfl rfl rfl fun w h => ?_)
                refine go_op rfl (ev_st (i := 1) rfl rfl h rfl rfl rfl rfl rfl fun w h => ?_)
                exact go_fin (go_stop (G := Nat × Nat × Nat) (_, _, _) rfl ⟨rfl, rfl, rfl, rfl, rfl, rfl, rfl, rfl, rfl, trivial⟩ (Bk.out (i := 2) (j := 0) (k := 1) h rfl rfl rfl (by decide) (by decide) (by decide)) trivial)
              refine go_op rfl (ev_al rfl h fun w h => ?_)
              refine go_op rfl (ev_call rfl rfl h cM fun w h => ?_)
              refine go_op rfl (ev_st (i := 2) rfl rfl h rfl rfl rfl rfl rfl fun w h => ?_)
              refine go_op rfl (ev_st (i := 0) rfl rfl h rfl rfl rfl rfl rfl fun w h => ?_)
              refine go_op rfl (ev_st (i := 1) rfl rfl h rfl rfl rfl rfl rfl fun w h => ?_)
              exact go_fin (go_stop (G := Nat × Nat × Nat) (_, _, _) rfl ⟨rfl, rfl, rfl, rfl, rfl, rfl, rfl, rfl, rfl, trivial⟩ (Bk.out (i := 2) (j := 0) (k := 1) h rfl rfl rfl (by decide) (by decide) (by decide)) trivial)
            refine go_op rfl (ev_al rfl h fun w h => ?_)
            refine go_op rfl (ev_call rfl rfl h cM2 fun w h => ?_)
            refine go_op rfl (ev_call rfl rfl h cM fun w h => ?_)
            refine go_op rfl (ev_st (i := 2) rfl rfl h rfl rfl rfl rfl rfl fun w h => ?_)
            refine go_op rfl (ev_st (i := 0) rfl rfl h rfl rfl rfl rfl rfl fun w h => ?_)
            refine go_op rfl (ev_st (i := 1) rfl rfl h rfl rfl rfl rfl rfl fun w h => ?_)
            exact go_fin (go_stop (G := Nat × Nat × Nat) (_, _, _) rfl ⟨rfl, rfl, rfl, rfl, rfl, rfl, rfl, rfl, rfl, trivial⟩ (Bk.out (i := 2) (j := 0) (k := 1) h rfl rfl rfl (by decide) (by decide) (by decide)) trivial)
          refine go_alt rfl (ev_al rfl h fun w h => ?_) ?_
          · refine go_alt rfl (ev_call rfl rfl h cM2 fun w h => ?_) ?_
            · refine go_alt rfl (ev_call rfl rfl h cM fun w h => ?_) ?_
              · refine go_alt rfl (ev_al rfl h fun w h => ?_) ?_
                · refine go_op rfl (ev_al rfl h fun w h => ?_)
                  refine go_op rfl (ev_st (i := 1) rfl rfl h rfl rfl rfl rfl rfl fun w h => ?_)
                  refine go_op rfl (ev_st (i := 2) rfl rfl h rfl rfl rfl rfl rfl fun w h => ?_)
                  refine go_op rfl (ev_st (i := 0) rfl rfl h rfl rfl rfl rfl rfl fun w h => ?_)
                  exact go_fin (go_stop (G := Nat × Nat × Nat) (_, _, _) rfl ⟨rfl, rfl, rfl, rfl, rfl, rfl, rfl, rfl, rfl, trivial⟩ (Bk.out (i := 1) (j := 2) (k := 0) h rfl rfl rfl (by decide) (by decide) (by decide)) trivial)
                refine go_op rfl (ev_al rfl h fun w h => ?_)
                refine go_op rfl (ev_al rfl h fun w h => ?_)
                refine go_op rfl (ev_st (i := 0) rfl rfl h rfl rfl rfl rfl rfl fun w h => ?_)
                refine go_op rfl (ev_st (i := 2) rfl rfl h rfl rfl rfl rfl rfl fun w h => ?_)
                refine go_op rfl (ev_st (i := 1) rfl rfl h rfl rfl rfl rfl rfl fun w h => ?_)
                exact go_fin (go_stop (G := Nat × Nat × Nat) (_, _, _) rfl ⟨rfl, rfl, rfl, rfl, rfl, rfl, rfl, rfl, rfl, trivial⟩ (Bk.out (i := 0) (j := 2) (k := 1) h rfl rfl rfl (by decide) (by decide) (by decide)) trivial)
              refine go_alt rfl (ev_al rfl h fun w h => ?_) ?_
              · refine go_alt rfl (ev_call rfl rfl h cM fun w h => ?_) ?_
                · refine go_op rfl (ev_al rfl h fun w h => ?_)
                  refine go_op rfl (ev_st (i := 1) rfl rfl h rfl rfl rfl rfl rfl fun w h => ?_)
                  refine go_op rfl (ev_st (i := 2) rfl rfl h rfl rfl rfl rfl rfl fun w h => ?_)
                  refine go_op rfl (ev_st (i := 0) rfl rfl h rfl rfl rfl rfl rfl fun w h => ?_)
                  exact go_fin (go_stop (G := Nat × Nat × Nat) (_, _, _) rfl ⟨rfl, rfl, rfl, rfl, rfl, rfl, rfl, rfl, rfl, trivial⟩ (Bk.out (i := 1) (j := 2) (k := 0) h rfl rfl rfl (by decide) (by decide) (by decide)) trivial)
                refine go_op rfl (ev_al rfl h fun w h => ?_)
                refine go_op rfl (ev_call rfl rfl h cM fun w h => ?_)
                refine go_op rfl (ev_st (i := 1) rfl rfl h rfl rfl rfl rfl rfl fun w h => ?_)
                refine go_op rfl (ev_st (i := 2) rfl rfl h rfl rfl rfl rfl rfl fun w h => ?_)
                refine go_op rfl (ev_st (i := 0) rfl rfl h rfl rfl rfl rfl rfl fun w h => ?_)
                exact go_fin (go_stop (G := Nat × Nat × Nat) (_, _, _) rfl ⟨rfl, rfl, rfl, rfl, rfl, rfl, rfl, rfl, rfl, trivial⟩ (Bk.out (i := 1) (j := 2) (k := 0) h rfl rfl rfl (by decide) (by decide) (by decide)) trivial)
              refine go_op rfl (ev_al rfl h fun w h => ?_)
              refine go_alt rfl (ev_call rfl rfl h cM fun w h => ?_) ?_
              · refine go_op rfl (ev_al rfl h fun w h => ?_)
                refine go_op rfl (ev_st (i := 0) rfl rfl h rfl rfl rfl rfl rfl fun w h => ?_)
                refine go_op rfl (ev_st (i := 2) rfl rfl h rfl rfl rfl rfl rfl fun w h => ?_)
                refine go_op rfl (ev_st (i := 1) rfl rfl h rfl rfl rfl rfl rfl fun w h => ?_)
                exact go_fin (go_stop (G := Nat × Nat × Nat) (_, _, _) rfl ⟨rfl, rfl, rfl, rfl, rfl, rfl, rfl, rfl, rfl, trivial⟩ (Bk.out (i := 0) (j := 2) (k := 1) h rfl rfl rfl (by decide) (by decide) (by decide)) trivial)
              refine go_op rfl (ev_al rfl h fun w h => ?_)
              refine go_op rfl (ev_call rfl rfl h cM fun w h => ?_)
              refine go_op rfl (ev_st (i := 0) rfl rfl h rfl rfl rfl rfl rfl fun w h => ?_)
              refine go_op rfl (ev_st (i := 2) rfl rfl h rfl rfl rfl rfl rfl fun w h => ?_)
              refine go_op rfl (ev_st (i := 1) rfl rfl h rfl rfl rfl rfl rfl fun w h => ?_)
              exact go_fin (go_stop (G := Nat × Nat × Nat) (_, _, _) rfl ⟨rfl, rfl, rfl, rfl, rfl, rfl, rfl, rfl, rfl, trivial⟩ (Bk.out (i := 0) (j := 2) (k := 1) h rfl rfl rfl (by decide) (by decide) (by decide)) trivial)
            refine go_alt rfl (ev_al rfl h fun w h => ?_) ?_
            · refine go_alt rfl (ev_call rfl rfl h cM2 fun w h => ?_) ?_
              · refine go_alt rfl (ev_call rfl rfl h cM fun w h => ?_) ?_
                · refine go_op rfl (ev_al rfl h fun w h => ?_)
                  refine go_op rfl (ev_st (i := 1) rfl rfl h rfl rfl rfl rfl rfl fun w h => ?_)
                  refine go_op rfl (ev_st (i := 2) rfl rfl h rfl rfl rfl rfl rfl fun w h => ?_)
                  refine go_op rfl (ev_st (i := 0) rfl rfl h rfl rfl rfl rfl rfl fun w h => ?_)
                  exact go_fin (go_stop (G := Nat × Nat × Nat) (_, _, _) rfl ⟨rfl, rfl, rfl, rfl, rfl, rfl, rfl, rfl, rfl, trivial⟩ (Bk.out (i := 1) (j := 2) (k := 0) h rfl rfl rfl (by decide) (by decide) (by decide)) trivial)
                refine go_op rfl (ev_al rfl h fun w h => ?_)
                refine go_op rfl (ev_call rfl rfl h cM fun w h => ?_)
                refine go_op rfl (ev_st (i := 1) rfl rfl h rfl rfl rfl rfl rfl fun w h => ?_)
                refine go_op rfl (ev_st (i := 2) rfl rfl h rfl rfl rfl rfl rfl fun w h => ?_)
                refine go_op rfl (ev_st (i := 0) rfl rfl h rfl rfl rfl rfl rfl fun w h => ?_)
                exact go_fin (go_stop (G := Nat × Nat × Nat) (_, _, _) rfl ⟨rfl, rfl, rfl, rfl, rfl, rfl, rfl, rfl, rfl, trivial⟩ (Bk.out (i := 1) (j := 2) (k := 0) h rfl rfl rfl (by decide) (by decide) (by decide)) trivial)
              refine go_op rfl (ev_al rfl h fun w h => ?_)
              refine go_op rfl (ev_call rfl rfl h cM2 fun w h => ?_)
              refine go_op rfl (ev_call rfl rfl h cM fun w h => ?_)
              refine go_op rfl (ev_st (i := 1) rfl rfl h rfl rfl rfl rfl rfl fun w h => ?_)
              refine go_op rfl (ev_st (i := 2) rfl rfl h rfl rfl rfl rfl rfl fun w h => ?_)
              refine go_op rfl (ev_st (i := 0) rfl rfl h rfl rfl rfl rfl rfl fun w h => ?_)
              exact go_fin (go_stop (G := Nat × Nat × Nat) (_, _, _) rfl ⟨rfl, rfl, rfl, rfl, rfl, rfl, rfl, rfl, rfl, trivial⟩ (Bk.out (i := 1) (j := 2) (k := 0) h rfl rfl rfl (by decide) (by decide) (by decide)) trivial)
            refine go_op rfl (ev_al rfl h fun w h => ?_)
            refine go_alt rfl (ev_call rfl rfl h cM2 fun w h => ?_) ?_
            · refine go_alt rfl (ev_call rfl rfl h cM fun w h => ?_) ?_
              · refine go_op rfl (ev_al rfl h fun w h => ?_)
                refine go_op rfl (ev_st (i := 0) rfl rfl h rfl rfl rfl rfl rfl fun w h => ?_)
                refine go_op rfl (ev_st (i := 2) rfl rfl h rfl rfl rfl rfl rfl fun w h => ?_)
                refine go_op rfl (ev_st (i := 1) rfl rfl h rfl rfl rfl rfl rfl fun w h => ?_)
                exact go_fin (go_stop (G := Nat × Nat × Nat) (_, _, _) rfl ⟨rfl, rfl, rfl, rfl, rfl, rfl, rfl, rfl, rfl, trivial⟩ (Bk.out (i := 0) (j := 2) (k := 1) h rfl rfl rfl (by decide) (by decide) (by decide)) trivial)
              refine go_op rfl (ev_al rfl h fun w h => ?_)
              refine go_op rfl (ev_call rfl rfl h cM fun w h => ?_)
              refine go_op rfl (ev_st (i := 0) rfl rfl h rfl rfl rfl rfl rfl fun w h => ?_)
              refine go_op rfl (ev_st (i := 2) rfl rfl h rfl rfl rfl rfl rfl fun w h => ?_)
              refine go_op rfl (ev_st (i := 1) rfl rfl h rfl rfl rfl rfl rfl fun w h => ?_)
              exact go_fin (go_stop (G := Nat × Nat × Nat) (_, _, _) rfl ⟨rfl, rfl, rfl, rfl, rfl, rfl, rfl, rfl, rfl, trivial⟩ (Bk.out (i := 0) (j := 2) (k := 1) h rfl rfl rfl (by decide) (by decide) (by decide)) trivial)
            refine go_op rfl (ev_al rfl h fun w h => ?_)
            refine go_op rfl (ev_call rfl rfl h cM2 fun w h => ?_)
            refine go_op rfl (ev_call rfl rfl h cM fun w h => ?_)
            refine go_op rfl (ev_st (i := 0) rfl rfl h rfl rfl rfl rfl rfl fun w h => ?_)
            refine go_op rfl (ev_st (i := 2) rfl rfl h rfl rfl rfl rfl rfl fun w h => ?_)
            refine go_op rfl (ev_st (i := 1) rfl rfl h rfl rfl rfl rfl rfl fun w h => ?_)
            exact go_fin (go_stop (G := Nat × Nat × Nat) (_, _, _) rfl ⟨rfl, rfl, rfl, rfl, rfl, rfl, rfl, rfl, rfl, trivial⟩ (Bk.out (i := 0) (j := 2) (k := 1) h rfl rfl rfl (by decide) (by decide) (by decide)) trivial)
          refine go_op rfl (ev_al rfl h fun w h => ?_)
          refine go_alt rfl (ev_call rfl rfl h cM2 fun w h => ?_) ?_
          · refine go_alt rfl (ev_call rfl rfl h cM fun w h => ?_) ?_
            · refine go_alt rfl (ev_al rfl h fun w h => ?_) ?_
              · refine go_op rfl (ev_al rfl h fun w h => ?_)
                refine go_op rfl (ev_st (i := 1) rfl rfl h rfl rfl rfl rfl rfl fun w h => ?_)
                refine go_op rfl (ev_st (i := 0) rfl rfl h rfl rfl rfl rfl rfl fun w h => ?_)
                refine go_op rfl (ev_st (i := 2) rfl rfl h rfl rfl rfl rfl rfl fun w h => ?_)
                exact go_fin (go_stop (G := Nat × Nat × Nat) (_, _, _) rfl ⟨rfl, rfl, rfl, rfl, rfl, rfl, rfl, rfl, rfl, trivial⟩ (Bk.out (i := 1) (j := 0) (k := 2) h rfl rfl rfl (by decide) (by decide) (by decide)) trivial)
              refine go_op rfl (ev_al rfl h fun w h => ?_)
              refine go_op rfl (ev_al rfl h fun w h => ?_)
              refine go_op rfl (ev_st (i := 0) rfl rfl h rfl rfl rfl rfl rfl fun w h => ?_)
              refine go_op rfl (ev_st (i := 1) rfl rfl h rfl rfl rfl rfl rfl fun w h => ?_)
              refine go_op rfl (ev_st (i := 2) rfl rfl h rfl rfl rfl rfl rfl fun w h => ?_)
              exact go_fin (go_stop (G := Nat × Nat × Nat) (_, _, _) rfl ⟨rfl, rfl, rfl, rfl, rfl, rfl, rfl, rfl, rfl, trivial⟩ (Bk.out (i := 0) (j := 1) (k := 2) h rfl rfl rfl (by decide) (by decide) (by decide)) trivial)
            refine go_alt rfl (ev_al rfl h fun w h => ?_) ?_
            · refine go_alt rfl (ev_call rfl rfl h cM fun w h => ?_) ?_
              · refine go_op rfl (ev_al rfl h fun w h => ?_)
                refine go_op rfl (ev_st (i := 1) rfl rfl h rfl rfl rfl rfl rfl fun w h => ?_)
                refine go_op rfl (ev_st (i := 0) rfl rfl h rfl rfl rfl rfl rfl fun w h => ?_)
                refine go_op rfl (ev_st (i := 2) rfl rfl h rfl rfl rfl rfl rfl fun w h => ?_)
                exact go_fin (go_stop (G := Nat × Nat × Nat) (_, _, _) rfl ⟨rfl, rfl, rfl, rfl, rfl, rfl, rfl, rfl, rfl, trivial⟩ (Bk.out (i := 1) (j := 0) (k := 2) h rfl rfl rfl (by decide) (by decide) (by decide)) trivial)
              refine go_op rfl (ev_al rfl h fun w h => ?_)
              refine go_op rfl (ev_call rfl rfl h cM fun w h => ?_)
              refine go_op rfl (ev_st (i := 1) rfl rfl h rfl rfl rfl rfl rfl fun w h => ?_)
              refine go_op rfl (ev_st (i := 0) rfl rfl h rfl rfl rfl rfl rfl fun w h => ?_)
              refine go_op rfl (ev_st (i := 2) rfl rfl h rfl rfl rfl rfl rfl fun w h => ?_)
              exact go_fin (go_stop (G := Nat × Nat × Nat) (_, _, _) rfl ⟨rfl, rfl, rfl, rfl, rfl, rfl, rfl, rfl, rfl, trivial⟩ (Bk.out (i := 1) (j := 0) (k := 2) h rfl rfl rfl (by decide) (by decide) (by decide)) trivial)
            refine go_op rfl (ev_al rfl h fun w h => ?_)
            refine go_alt rfl (ev_call rfl rfl h cM fun w h => ?_) ?_
            · refine go_op rfl (ev_al rfl h fun w h => ?_)
              refine go_op rfl (ev_st (i := 0) rfl rfl h rfl rfl rfl rfl rfl fun w h => ?_)
              refine go_op rfl (ev_st (i := 1) rfl rfl h rfl rfl rfl rfl rfl fun w h => ?_)
              refine go_op rfl (ev_st (i := 2) rfl rfl h rfl rfl rfl rfl rfl fun w h => ?_)
              exact go_fin (go_stop (G := Nat × Nat × Nat) (_, _, _) rfl ⟨rfl, rfl, rfl, rfl, rfl, rfl, rfl, rfl, rfl, trivial⟩ (Bk.out (i := 0) (j := 1) (k := 2) h rfl rfl rfl (by decide) (by decide) (by decide)) trivial)
            refine go_op rfl (ev_al rfl h fun w h => ?_)
            refine go_op rfl (ev_call rfl rfl h cM fun w h => ?_)
            refine go_op rfl (ev_st (i := 0) rfl rfl h rfl rfl rfl rfl rfl fun w h => ?_)
            refine go_op rfl (ev_st (i := 1) rfl rfl h rfl rfl rfl rfl rfl fun w h => ?_)
            refine go_op rfl (ev_st (i := 2) rfl rfl h rfl rfl rfl rfl rfl fun w h => ?_)
            exact go_fin (go_stop (G := Nat × Nat × Nat) (_, _, _) rfl ⟨rfl, rfl, rfl, rfl, rfl, rfl, rfl, rfl, rfl, trivial⟩ (Bk.out (i := 0) (j := 1) (k := 2) h rfl rfl rfl (by decide) (by decide) (by decide)) trivial)
          refine go_alt rfl (ev_al rfl h fun w h => ?_) ?_
          · refine go_alt rfl (ev_call rfl rfl h cM2 fun w h => ?_) ?_
            · refine go_alt rfl (ev_call rfl rfl h cM fun w h => ?_) ?_
              · refine go_op rfl (ev_al rfl h fun w h => ?_)
                refine go_op rfl (ev_st (i := 1) rfl rfl h rfl rfl rfl rfl rfl fun w h => ?_)
                refine go_op rfl (ev_st (i := 0) rfl rfl h rfl rfl rfl rfl rfl fun w h => ?_)
                refine go_op rfl (ev_st (i := 2) rfl rfl h rfl rfl rfl rfl rfl fun w h => ?_)
                exact go_fin (go_stop (G := Nat × Nat × Nat) (_, _, _) rfl ⟨rfl, rfl, rfl, rfl, rfl, rfl, rfl, rfl, rfl, trivial⟩ (Bk.out (i := 1) (j := 0) (k := 2) h rfl rfl rfl (by decide) (by decide) (by decide)) trivial)
              refine go_op rfl (ev_al rfl h fun w h => ?_)
              refine go_op rfl (ev_call rfl rfl h cM fun w h => ?_)
              refine go_op rfl (ev_st (i := 1) rfl rfl h rfl rfl rfl rfl rfl fun w h => ?_)
              refine go_op rfl (ev_st (i := 0) rfl rfl h rfl rfl rfl rfl rfl fun w h => ?_)
              refine go_op rfl (ev_st (i := 2) rfl rfl h rfl rfl rfl rfl rfl fun w h => ?_)
              exact go_fin (go_stop (G := Nat × Nat × Nat) (_, _, _) rfl ⟨rfl, rfl, rfl, rfl, rfl, rfl, rfl, rfl, rfl, trivial⟩ (Bk.out (i := 1) (j := 0) (k := 2) h rfl rfl rfl (by decide) (by decide) (by decide)) trivial)
            refine go_op rfl (ev_al rfl h fun w h => ?_)
            refine go_op rfl (ev_call rfl rfl h cM2 fun w h => ?_)
            refine go_op rfl (ev_call rfl rfl h cM fun w h => ?_)
            refine go_op rfl (ev_st (i := 1) rfl rfl h rfl rfl rfl rfl rfl fun w h => ?_)
            refine go_op rfl (ev_st (i := 0) rfl rfl h rfl rfl rfl rfl rfl fun w h => ?_)
            refine go_op rfl (ev_st (i := 2) rfl rfl h rfl rfl rfl rfl rfl fun w h => ?_)
            exact go_fin (go_stop (G := Nat × Nat × Nat) (_, _, _) rfl ⟨rfl, rfl, rfl, rfl, rfl, rfl, rfl, rfl, rfl, trivial⟩ (Bk.out (i := 1) (j := 0) (k := 2) h rfl rfl rfl (by decide) (by decide) (by decide)) trivial)
          refine go_op rfl (ev_al rfl h fun w h => ?_)
          refine go_alt rfl (ev_call rfl rfl h cM2 fun w h => ?_) ?_
          · refine go_alt rfl (ev_call rfl rfl h cM fun w h => ?_) ?_
            · refine go_op rfl (ev_al rfl h fun w h => ?_)
              refine go_op rfl (ev_st (i := 0) rfl rfl h rfl rfl rfl rfl rfl fun w h => ?_)
              refine go_op rfl (ev_st (i := 1) rfl rfl h rfl rfl rfl rfl rfl fun w h => ?_)
              refine go_op rfl (ev_st (i := 2) rfl rfl h rfl rfl rfl rfl rfl fun w h => ?_)
              exact go_fin (go_stop (G := Nat × Nat × Nat) (_, _, _) rfl ⟨rfl, rfl, rfl, rfl, rfl, rfl, rfl, rfl, rfl, trivial⟩ (Bk.out (i := 0) (j := 1) (k := 2) h rfl rfl rfl (by decide) (by decide) (by decide)) trivial)
            refine go_op rfl (ev_al rfl h fun w h => ?_)
            refine go_op rfl (ev_call rfl rfl h cM fun w h => ?_)
            refine go_op rfl (ev_st (i := 0) rfl rfl h rfl rfl rfl rfl rfl fun w h => ?_)
            refine go_op rfl (ev_st (i := 1) rfl rfl h rfl rfl rfl rfl rfl fun w h => ?_)
            refine go_op rfl (ev_st (i := 2) rfl rfl h rfl rfl rfl rfl rfl fun w h => ?_)
            exact go_fin (go_stop (G := Nat × Nat × Nat) (_, _, _) rfl ⟨rfl, rfl, rfl, rfl, rfl, rfl, rfl, rfl, rfl, trivial⟩ (Bk.out (i := 0) (j := 1) (k := 2) h rfl rfl rfl (by decide) (by decide) (by decide)) trivial)
          refine go_op rfl (ev_al rfl h fun w h => ?_)
          refine go_op rfl (ev_call rfl rfl h cM2 fun w h => ?_)
          refine go_op rfl (ev_call rfl rfl h cM fun w h => ?_)
          refine go_op rfl (ev_st (i := 0) rfl rfl h rfl rfl rfl rfl rfl fun w h => ?_)
          refine go_op rfl (ev_st (i := 1) rfl rfl h rfl rfl rfl rfl rfl fun w h => ?_)
          refine go_op rfl (ev_st (i := 2) rfl rfl h rfl rfl rfl rfl rfl fun w h => ?_)
          exact go_fin (go_stop (G := Nat × Nat × Nat) (_, _, _) rfl ⟨rfl, rfl, rfl, rfl, rfl, rfl, rfl, rfl, rfl, trivial⟩ (Bk.out (i := 0) (j := 1) (k := 2) h rfl rfl rfl (by decide) (by decide) (by decide)) trivial)
        refine go_alt rfl (ev_al rfl h fun w h => ?_) ?_
        · refine go_alt rfl (ev_call rfl rfl h cM fun w h => ?_) ?_
          · refine go_op rfl ?_
            refine sp ?_
            refine gol_nil ?_
            refine go_alt rfl (ev_call rfl rfl h cM2 fun w h => ?_) ?_
            · refine go_alt rfl (ev_call rfl rfl h cM fun w h => ?_) ?_
              · refine go_alt rfl (ev_al rfl h fun w h => ?_) ?_
                · refine go_op rfl (ev_al rfl h fun w h => ?_)
                  refine go_op rfl (ev_st (i := 2) rfl rfl h rfl rfl rfl rfl rfl fun w h => ?_)
                  refine go_op rfl (ev_st (i := 1) rfl rfl h rfl rfl rfl rfl rfl fun w h => ?_)
                  refine go_op rfl (ev_st (i := 0) rfl rfl h rfl rfl rfl rfl rfl fun w h => ?_)
                  exact go_fin (go_stop (G := Nat × Nat × Nat) (_, _, _) rfl ⟨rfl, rfl, rfl, rfl, rfl, rfl, rfl, rfl, rfl, trivial⟩ (Bk.out (i := 2) (j := 1) (k := 0) h rfl rfl rfl (by decide) (by decide) (by decide)) trivial)
                refine go_op rfl (ev_al rfl h fun w h => ?_)
                refine go_op rfl (ev_al rfl h fun w h => ?_)
                refine go_op rfl (ev_st (i := 2) rfl rfl h rfl rfl rfl rfl rfl fun w h => ?_)
                refine go_op rfl (ev_st (i := 0) rfl rfl h rfl rfl rfl rfl rfl fun w h => ?_)
                refine go_op rfl (ev_st (i := 1) rfl rfl h rfl rfl rfl rfl rfl fun w h => ?_)
                exact go_fin (go_stop (G := Nat × Nat × Nat) (_, _, _) rfl ⟨rfl, rfl, rfl, rfl, rfl, rfl, rfl, rfl, rfl, trivial⟩ (Bk.out (i := 2) (j := 0) (k := 1) h rfl rfl rfl (by decide) (by decide) (by decide)) trivial)
              refine go_alt rfl (ev_al rfl h fun w h => ?_) ?_
              · refine go_alt rfl (ev_call rfl rfl h cM fun w h => ?_) ?_
                · refine go_op rfl (ev_al rfl h fun w h => ?_)
                  refine go_op rfl (ev_st (i := 2) rfl rfl h rfl rfl rfl rfl rfl fun w h => ?_)
                  refine go_op rfl (ev_st (i := 1) rfl rfl h rfl rfl rfl rfl rfl fun w h => ?_)
                  refine go_op rfl (ev_st (i := 0) rfl rfl h rfl rfl rfl rfl rfl fun w h => ?_)
                  exact go_fin (go_stop (G := Nat × Nat × Nat) (_, _, _) rfl ⟨rfl, rfl, rfl, rfl, rfl, rfl, rfl, rfl, rfl, trivial⟩ (Bk.out (i := 2) (j := 1) (k := 0) h rfl rfl rfl (by decide) (by decide) (by decide)) trivial)
                refine go_op rfl (ev_al rfl h fun w h => ?_)
                refine go_op rfl (ev_call rfl rfl h cM fun w h => ?_)
                refine go_op rfl (ev_st (i := 2) rfl rfl h rfl rfl rfl rfl rfl fun w h => ?_)
                refine go_op rfl (ev_st (i := 1) rfl rfl h rfl rfl rfl rfl rfl fun w h => ?_)
                refine go_op rfl (ev_st (i := 0) rfl rfl h rfl rfl rfl rfl rfl fun w h => ?_)
                exact go_fin (go_stop (G := Nat × Nat × Nat) (_, _, _) rfl ⟨rfl, rfl, rfl, rfl, rfl, rfl, rfl, rfl, rfl, trivial⟩ (Bk.out (i := 2) (j := 1) (k := 0) h rfl rfl rfl (by decide) (by decide) (by decide)) trivial)
              refine go_op rfl (ev_al rfl h fun w h => ?_)
              refine go_alt rfl (ev_call rfl rfl h cM fun w h => ?_) ?_
              · refine go_op rfl (ev_al rfl h fun w h => ?_)
                refine go_op rfl (ev_st (i := 2) rfl rfl h rfl rfl rfl rfl rfl fun w h => ?_)
                refine go_op rfl (ev_st (i := 0) rfl rfl h rfl rfl rfl rfl rfl fun w h => ?_)
                refine go_op rfl (ev_st (i := 1) rfl rfl h rfl rfl rfl rfl rfl fun w h => ?_)
                exact go_fin (go_stop (G := Nat × Nat × Nat) (_, _, _) rfl ⟨rfl, rfl, rfl, rfl, rfl, rfl, rfl, rfl, rfl, trivial⟩ (Bk.out (i := 2) (j := 0) (k := 1) h rfl rfl rfl (by decide) (by decide) (by decide)) trivial)
              refine go_op rfl (ev_al rfl h fun w h => ?_)
              refine go_op rfl (ev_call rfl rfl h cM fun w h => ?_)
              refine go_op rfl (ev_st (i := 2) rfl rfl h rfl rfl rfl rfl rfl fun w h => ?_)
              refine go_op rfl (ev_st (i := 0) rfl rfl h rfl rfl rfl rfl rfl fun w h => ?_)
              refine go_op rfl (ev_st (i := 1) rfl rfl h rfl rfl rfl rfl rfl fun w h => ?_)
              exact go_fin (go_stop (G := Nat × Nat × Nat) (_, _, _) rfl ⟨rfl, rfl, rfl, rfl, rfl, rfl, rfl, rfl, rfl, trivial⟩ (Bk.out (i := 2) (j := 0) (k := 1) h rfl rfl rfl (by decide) (by decide) (by decide)) trivial)
            refine go_alt rfl (ev_al rfl h fun w h => ?_) ?_
            · refine go_alt rfl (ev_call rfl rfl h cM2 fun w h => ?_) ?_
              · refine go_alt rfl (ev_call rfl rfl h cM fun w h => ?_) ?_
                · refine go_op rfl (ev_al rfl h fun w h => ?_)
                  refine go_op rfl (ev_st (i := 2) rfl rfl h rfl rfl rfl rfl rfl fun w h => ?_)
                  refine go_op rfl (ev_st (i := 1) rfl rfl h rfl rfl rfl rfl rfl fun w h => ?_)
                  refine go_op rfl (ev_st (i := 0) rfl rfl h rfl rfl rfl rfl rfl fun w h => ?_)
                  exact go_fin (go_stop (G := Nat × Nat × Nat) (_, _, _) rfl ⟨rfl, rfl, rfl, rfl, rfl, rfl, rfl, rfl, rfl, trivial⟩ (Bk.out (i := 2) (j := 1) (k := 0) h rfl rfl rfl (by decide) (by decide) (by decide)) trivial)
                refine go_op rfl (ev_al rfl h fun w h => ?_)
                refine go_op rfl (ev_call rfl rfl h cM fun w h => ?_)
                refine go_op rfl (ev_st (i := 2) rfl rfl h rfl rfl rfl rfl rfl fun w h => ?_)
                refine go_op rfl (ev_st (i := 1) rfl rfl h rfl rfl rfl rfl rfl fun w h => ?_)
                refine go_op rfl (ev_st (i := 0) rfl rfl h rfl rfl rfl rfl rfl fun w h => ?_)
                exact go_fin (go_stop (G := Nat × Nat × Nat) (_, _, _) rfl ⟨rfl, rfl, rfl, rfl, rfl, rfl, rfl, rfl, rfl, trivial⟩ (Bk.out (i := 2) (j := 1) (k := 0) h rfl rfl rfl (by decide) (by decide) (by decide)) trivial)
              refine go_op rfl (ev_al rfl h fun w h => ?_)
              refine go_op rfl (ev_call rfl rfl h cM2 fun w h => ?_)
              refine go_op rfl (ev_call rfl rfl h cM fun w h => ?_)
              refine go_op rfl (ev_st (i := 2) rfl rfl h rfl rfl rfl rfl rfl fun w h => ?_)
              refine go_op rfl (ev_st (i := 1) rfl rfl h rfl rfl rfl rfl rfl fun w h => ?_)
              refine go_op rfl (ev_st (i := 0) rfl rfl h rfl rfl rfl rfl rfl fun w h => ?_)
              exact go_fin (go_stop (G := Nat × Nat × Nat) (_, _, _) rfl ⟨rfl, rfl, rfl, rfl, rfl, rfl, rfl, rfl, rfl, trivial⟩ (Bk.out (i := 2) (j := 1) (k := 0) h rfl rfl rfl (by decide) (by decide) (by decide)) trivial)
            refine go_op rfl (ev_al rfl h fun w h => ?_)
            refine go_alt rfl (ev_call rfl rfl h cM2 fun w h => ?_) ?_
            · refine go_alt rfl (ev_call rfl rfl h cM fun w h => ?_) ?_
              · refine go_op rfl (ev_al rfl h fun w h => ?_)
                refine go_op rfl (ev_st (i := 2) rfl rfl h rfl rfl rfl rfl rfl fun w h => ?_)
                refine go_op rfl (ev_st (i := 0) rfl rfl h rfl rfl rfl rfl rfl fun w h => ?_)
                refine go_op rfl (ev_st (i := 1) rfl rfl h rfl rfl rfl rfl rfl fun w h => ?_)
                exact go_fin (go_stop (G := Nat × Nat × Nat) (_, _, _) rfl ⟨rfl, rfl, rfl, rfl, rfl, rfl, rfl, rfl, rfl, trivial⟩ (Bk.out (i := 2) (j := 0) (k := 1) h rfl rfl rfl (by decide) (by decide) (by decide)) trivial)
              refine go_op rfl (ev_al rfl h fun w h => ?_)
              refine go_op rfl (ev_call rfl rfl h cM fun w h => ?_)
              refine go_op rfl (ev_st (i := 2) rfl rfl h rfl rfl rfl rfl rfl fun w h => ?_)
              refine go_op rfl (ev_st (i := 0) rfl rfl h rfl rfl rfl rfl rfl fun w h => ?_)
              refine go_op rfl (ev_st (i := 1) rfl rfl h rfl rfl rfl rfl rfl fun w h => ?_)
              exact go_fin (go_stop (G := Nat × Nat × Nat) (_, _, _) rfl ⟨rfl, rfl, rfl, rfl, rfl, rfl, rfl, rfl, rfl, trivial⟩ (Bk.out (i := 2) (j := 0) (k := 1) h rfl rfl rfl (by decide) (by decide) (by decide)) trivial)
            refine go_op rfl (ev_al rfl h fun w h => ?_)
            refine go_op rfl (ev_call rfl rfl h cM2 fun w h => ?_)
            refine go_op rfl (ev_call rfl rfl h cM fun w h => ?_)
            refine go_op rfl (ev_st (i := 2) rfl rfl h rfl rfl rfl rfl rfl fun w h => ?_)
            refine go_op rfl (ev_st (i := 0) rfl rfl h rfl rfl rfl rfl rfl fun w h => ?_)
            refine go_op rfl (ev_st (i := 1) rfl rfl h rfl rfl rfl rfl rfl fun w h => ?_)
            exact go_fin (go_stop (G := Nat × Nat × Nat) (_, _, _) rfl ⟨rfl, rfl, rfl, rfl, rfl, rfl, rfl, rfl, rfl, trivial⟩ (Bk.out (i := 2) (j := 0) (k := 1) h rfl rfl rfl (by decide) (by decide) (by decide)) trivial)
          refine go_alt rfl (ev_al rfl h fun w h => ?_) ?_
          · refine go_alt rfl (ev_call rfl rfl h cM fun w h => ?_) ?_
            · refine go_op rfl ?_
              refine sp ?_
              refine gol_nil ?_
              refine go_alt rfl (ev_call rfl rfl h cM2 fun w h => ?_) ?_
              · refine go_alt rfl (ev_call rfl rfl h cM fun w h => ?_) ?_
                · refine go_op rfl (ev_al rfl h fun w h => ?_)
                  refine go_op rfl (ev_st (i := 2) rfl rfl h rfl rfl rfl rfl rfl fun w h => ?_)
                  refine go_op rfl (ev_st (i := 1) rfl rfl h rfl rfl rfl rfl rfl fun w h => ?_)
                  refine go_op rfl (ev_st (i := 0) rfl rfl h rfl rfl rfl rfl rfl fun w h => ?_)
                  exact go_fin (go_stop (G := Nat × Nat × Nat) (_, _, _) rfl ⟨rfl, rfl, rfl, rfl, rfl, rfl, rfl, rfl, rfl, trivial⟩ (Bk.out (i := 2) (j := 1) (k := 0) h rfl rfl rfl (by decide) (by decide) (by decide)) trivial)
                refine go_op rfl (ev_al rfl h fun w h => ?_)
                refine go_op rfl (ev_call rfl rfl h cM fun w h => ?_)
                refine go_op rfl (ev_st (i := 2) rfl rfl h rfl rfl rfl rfl rfl fun w h => ?_)
                refine go_op rfl (ev_st (i := 1) rfl rfl h rfl rfl rfl rfl rfl fun w h => ?_)
                refine go_op rfl (ev_st (i := 0) rfl rfl h rfl rfl rfl rfl rfl fun w h => ?_)
                exact go_fin (go_stop (G := Nat × Nat × Nat) (_, _, _) rfl ⟨rfl, rfl, rfl, rfl, rfl, rfl, rfl, rfl, rfl, trivial⟩ (Bk.out (i := 2) (j := 1) (k := 0) h rfl rfl rfl (by decide) (by decide) (by decide)) trivial)
              refine go_op rfl (ev_al rfl h fun w h => ?_)
              refine go_op rfl (ev_call rfl rfl h cM2 fun w h => ?_)
              refine go_op rfl (ev_call rfl rfl h cM fun w h => ?_)
              refine go_op rfl (ev_st (i := 2) rfl rfl h rfl rfl rfl rfl rfl fun w h => ?_)
              refine go_op rfl (ev_st (i := 1) rfl rfl h rfl rfl rfl rfl rfl fun w h => ?_)
              refine go_op rfl (ev_st (i := 0) rfl rfl h rfl rfl rfl rfl rfl fun w h => ?_)
              exact go_fin (go_stop (G := Nat × Nat × Nat) (_, _, _) rfl ⟨rfl, rfl, rfl, rfl, rfl, rfl, rfl, rfl, rfl, trivial⟩ (Bk.out (i := 2) (j := 1) (k := 0) h rfl rfl rfl (by decide) (by decide) (by decide)) trivial)
            refine go_op rfl (ev_al rfl h fun w h => ?_)
            refine go_op rfl (ev_call rfl rfl h cM fun w h => ?_)
            refine go_op rfl ?_
            refine sp ?_
            refine gol_nil ?_
            refine go_op rfl (ev_call rfl rfl h cM2 fun w h => ?_)
            refine go_op rfl (ev_call rfl rfl h cM fun w h => ?_)
            refine go_op rfl (ev_st (i := 2) rfl rfl h rfl rfl rfl rfl rfl fun w h => ?_)
            refine go_op rfl (ev_st (i := 1) rfl rfl h rfl rfl rfl rfl rfl fun w h => ?_)
            refine go_op rfl (ev_st (i := 0) rfl rfl h rfl rfl rfl rfl rfl fun w h => ?_)
            exact go_fin (go_stop (G := Nat × Nat × Nat) (_, _, _) rfl ⟨rfl, rfl, rfl, rfl, rfl, rfl, rfl, rfl, rfl, trivial⟩ (Bk.out (i := 2) (j := 1) (k := 0) h rfl rfl rfl (by decide) (by decide) (by decide)) trivial)
          refine go_op rfl (ev_al rfl h fun w h => ?_)
          refine go_alt rfl (ev_call rfl rfl h cM fun w h => ?_) ?_
          · refine go_op rfl ?_
            refine sp ?_
            refine gol_nil ?_
            refine go_alt rfl (ev_call rfl rfl h cM2 fun w h => ?_) ?_
            · refine go_alt rfl (ev_call rfl rfl h cM fun w h => ?_) ?_
              · refine go_op rfl (ev_al rfl h fun w h => ?_)
                refine go_op rfl (ev_st (i := 2) rfl rfl h rfl rfl rfl rfl rfl fun w h => ?_)
                refine go_op rfl (ev_st (i := 0) rfl rfl h rfl rfl rfl rfl rfl fun w h => ?_)
                refine go_op rfl (ev_st (i := 1) rfl rfl h rfl rfl rfl rfl rfl fun w h => ?_)
                exact go_fin (go_stop (G := Nat × Nat × Nat) (_, _, _) rfl ⟨rfl, rfl, rfl, rfl, rfl, rfl, rfl, rfl, rfl, trivial⟩ (Bk.out (i := 2) (j := 0) (k := 1) h rfl rfl rfl (by decide) (by decide) (by decide)) trivial)
              refine go_op rfl (ev_al rfl h fun w h => ?_)
              refine go_op rfl (ev_call rfl rfl h cM fun w h => ?_)
              refine go_op rfl (ev_st (i := 2) rfl rfl h rfl rfl rfl rfl rfl fun w h => ?_)
              refine go_op rfl (ev_st (i := 0) rfl rfl h rfl rfl rfl rfl rfl fun w h => ?_)
              refine go_op rfl (ev_st (i := 1) rfl rfl h rfl rfl rfl rfl rfl fun w h => ?_)
              exact go_fin (go_stop (G := Nat × Nat × Nat) (_, _, _) rfl ⟨rfl, rfl, rfl, rfl, rfl, rfl, rfl, rfl, rfl, trivial⟩ (Bk.out (i := 2) (j := 0) (k := 1) h rfl rfl rfl (by decide) (by decide) (by decide)) trivial)
            refine go_op rfl (ev_al rfl h fun w h => ?_)
            refine go_op rfl (ev_call rfl rfl h cM2 fun w h => ?_)
            refine go_op rfl (ev_call rfl rfl h cM fun w h => ?_)
            refine go_op rfl (ev_st (i := 2) rfl rfl h rfl rfl rfl rfl rfl fun w h => ?_)
            refine go_op rfl (ev_st (i := 0) rfl rfl h rfl rfl rfl rfl rfl fun w h => ?_)
            refine go_op rfl (ev_st (i := 1) rfl rfl h rfl rfl rfl rfl rfl fun w h => ?_)
            exact go_fin (go_stop (G := Nat × Nat × Nat) (_, _, _) rfl ⟨rfl, rfl, rfl, rfl, rfl, rfl, rfl, rfl, rfl, trivial⟩ (Bk.out (i := 2) (j := 0) (k := 1) h rfl rfl rfl (by decide) (by decide) (by decide)) trivial)
          refine go_op rfl (ev_al rfl h fun w h => ?_)
          refine go_op rfl (ev_call rfl rfl h cM fun w h => ?_)
          refine go_op rfl ?_
          refine sp ?_
          refine gol_nil ?_
          refine go_op rfl (ev_call rfl rfl h cM2 fun w h => ?_)
          refine go_op rfl (ev_call rfl rfl h cM fun w h => ?_)
          refine go_op rfl (ev_st (i := 2) rfl rfl h rfl rfl rfl rfl rfl fun w h => ?_)
          refine go_op rfl (ev_st (i := 0) rfl rfl h rfl rfl rfl rfl rfl fun w h => ?_)
          refine go_op rfl (ev_st (i := 1) rfl rfl h rfl rfl rfl rfl rfl fun w h => ?_)
          exact go_fin (go_stop (G := Nat × Nat × Nat) (_, _, _) rfl ⟨rfl, rfl, rfl, rfl, rfl, rfl, rfl, rfl, rfl, trivial⟩ (Bk.out (i := 2) (j := 0) (k := 1) h rfl rfl rfl (by decide) (by decide) (by decide)) trivial)
        refine go_alt rfl (ev_al rfl h fun w h => ?_) ?_
        · refine go_alt rfl (ev_call rfl rfl h cM fun w h => ?_) ?_
          · refine go_op rfl ?_
            refine sp ?_
            refine gol_nil ?_
            refine go_alt rfl (ev_call rfl rfl h cM2 fun w h => ?_) ?_
            · refine go_alt rfl (ev_call rfl rfl h cM fun w h => ?_) ?_
              · refine go_alt rfl (ev_al rfl h fun w h => ?_) ?_
                · refine go_op rfl (ev_al rfl h fun w h => ?_)
                  refine go_op rfl (ev_st (i := 1) rfl rfl h rfl rfl rfl rfl rfl fun w h => ?_)
                  refine go_op rfl (ev_st (i := 2) rfl rfl h rfl rfl rfl rfl rfl fun w h => ?_)
                  refine go_op rfl (ev_st (i := 0) rfl rfl h rfl rfl rfl rfl rfl fun w h => ?_)
                  exact go_fin (go_stop (G := Nat × Nat × Nat) (_, _, _) rfl ⟨rfl, rfl, rfl, rfl, rfl, rfl, rfl, rfl, rfl, trivial⟩ (Bk.out (i := 1) (j := 2) (k := 0) h rfl rfl rfl (by decide) (by decide) (by decide)) trivial)
                refine go_op rfl (ev_al rfl h fun w h => ?_)
                refine go_op rfl (ev_al rfl h fun w h => ?_)
                refine go_op rfl (ev_st (i := 0) rfl rfl h rfl rfl rfl rfl rfl fun w h => ?_)
                refine go_op rfl (ev_st (i := 2) rfl rfl h rfl rfl rfl rfl rfl fun w h => ?_)
                refine go_op rfl (ev_st (i := 1) rfl rfl h rfl rfl rfl rfl rfl fun w h => ?_)
                exact go_fin (go_stop (G := Nat × Nat × Nat) (_, _, _) rfl ⟨rfl, rfl, rfl, rfl, rfl, rfl, rfl, rfl, rfl, trivial⟩ (Bk.out (i := 0) (j := 2) (k := 1) h rfl rfl rfl (by decide) (by decide) (by decide)) trivial)
              refine go_alt rfl (ev_al rfl h fun w h => ?_) ?_
              · refine go_alt rfl (ev_call rfl rfl h cM fun w h => ?_) ?_
                · refine go_op rfl (ev_al rfl h fun w h => ?_)
                  refine go_op rfl (ev_st (i := 1) rfl rfl h rfl rfl rfl rfl rfl fun w h => ?_)
                  refine go_op rfl (ev_st (i := 2) rfl rfl h rfl rfl rfl rfl rfl fun w h => ?_)
                  refine go_op rfl (ev_st (i := 0) rfl rfl h rfl rfl rfl rfl rfl fun w h => ?_)
                  exact go_fin (go_stop (G := Nat × Nat × Nat) (_, _, _) rfl ⟨rfl, rfl, rfl, rfl, rfl, rfl, rfl, rfl, rfl, trivial⟩ (Bk.out (i := 1) (j := 2) (k := 0) h rfl rfl rfl (by decide) (by decide) (by decide)) trivial)
                refine go_op rfl (ev_al rfl h fun w h => ?_)
                refine go_op rfl (ev_call rfl rfl h cM fun w h => ?_)
                refine go_op rfl (ev_st (i := 1) rfl rfl h rfl rfl rfl rfl rfl fun w h => ?_)
                refine go_op rfl (ev_st (i := 2) rfl rfl h rfl rfl rfl rfl rfl fun w h => ?_)
                refine go_op rfl (ev_st (i := 0) rfl rfl h rfl rfl rfl rfl rfl fun w h => ?_)
                exact go_fin (go_stop (G := Nat × Nat × Nat) (_, _, _) rfl ⟨rfl, rfl, rfl, rfl, rfl, rfl, rfl, rfl, rfl, trivial⟩ (Bk.out (i := 1) (j := 2) (k := 0) h rfl rfl rfl (by decide) (by decide) (by decide)) trivial)
              refine go_op rfl (ev_al rfl h fun w h => ?_)
              refine go_alt rfl (ev_call rfl rfl h cM fun w h => ?_) ?_
              · refine go_op rfl (ev_al rfl h fun w h => ?_)
                refine go_op rfl (ev_st (i := 0) rfl rfl h rfl rfl rfl rfl rfl fun w h => ?_)
                refine go_op rfl (ev_st (i := 2) rfl rfl h rfl rfl rfl rfl rfl fun w h => ?_)
                refine go_op rfl (ev_st (i := 1) rfl rfl h rfl rfl rfl rfl rfl fun w h => ?_)
                exact go_fin (go_stop (G := Nat × Nat × Nat) (_, _, _) rfl ⟨rfl, rfl, rfl, rfl, rfl, rfl, rfl, rfl, rfl, trivial⟩ (Bk.out (i := 0) (j := 2) (k := 1) h rfl rfl rfl (by decide) (by decide) (by decide)) trivial)
              refine go_op rfl (ev_al rfl h fun w h => ?_)
              refine go_op rfl (ev_call rfl rfl h cM fun w h => ?_)
              refine go_op rfl (ev_st (i := 0) rfl rfl h rfl rfl rfl rfl rfl fun w h => ?_)
              refine go_op rfl (ev_st (i := 2) rfl rfl h rfl rfl rfl rfl rfl fun w h => ?_)
              refine go_op rfl (ev_st (i := 1) rfl rfl h rfl rfl rfl rfl rfl fun w h => ?_)
              exact go_fin (go_stop (G := Nat × Nat × Nat) (_, _, _) rfl ⟨rfl, rfl, rfl, rfl, rfl, rfl, rfl, rfl, rfl, trivial⟩ (Bk.out (i := 0) (j := 2) (k := 1) h rfl rfl rfl (by decide) (by decide) (by decide)) trivial)
            refine go_alt rfl (ev_al rfl h fun w h => ?_) ?_
            · refine go_alt rfl (ev_call rfl rfl h cM2 fun w h => ?_) ?_
              · refine go_alt rfl (ev_call rfl rfl h cM fun w h => ?_) ?_
                · refine go_op rfl (ev_al rfl h fun w h => ?_)
                  refine go_op rfl (ev_st (i := 1) rfl rfl h rfl rfl rfl rfl rfl fun w h => ?_)
                  refine go_op rfl (ev_st (i := 2) rfl rfl h rfl rfl rfl rfl rfl fun w h => ?_)
                  refine go_op rfl (ev_st (i := 0) rfl rfl h rfl rfl rfl rfl rfl fun w h => ?_)
                  exact go_fin (go_stop (G := Nat × Nat × Nat) (_, _, _) rfl ⟨rfl, rfl, rfl, rfl, rfl, rfl, rfl, rfl, rfl, trivial⟩ (Bk.out (i := 1) (j := 2) (k := 0) h rfl rfl rfl (by decide) (by decide) (by decide)) trivial)
                refine go_op rfl (ev_al rfl h fun w h => ?_)
                refine go_op rfl (ev_call rfl rfl h cM fun w h => ?_)
                refine go_op rfl (ev_st (i := 1) rfl rfl h rfl rfl rfl rfl rfl fun w h => ?_)
                refine go_op rfl (ev_st (i := 2) rfl rfl h rfl rfl rfl rfl rfl fun w h => ?_)
                refine go_op rfl (ev_st (i := 0) rfl rfl h rfl rfl rfl rfl rfl fun w h => ?_)
                exact go_fin (go_stop (G := Nat × Nat × Nat) (_, _, _) rfl ⟨rfl, rfl, rfl, rfl, rfl, rfl, rfl, rfl, rfl, trivial⟩ (Bk.out (i := 1) (j := 2) (k := 0) h rfl rfl rfl (by decide) (by decide) (by decide)) trivial)
              refine go_op rfl (ev_al rfl h fun w h => ?_)
              refine go_op rfl (ev_call rfl rfl h cM2 fun w h => ?_)
              refine go_op rfl (ev_call rfl rfl h cM fun w h => ?_)
              refine go_op rfl (ev_st (i := 1) rfl rfl h rfl rfl rfl rfl rfl fun w h => ?_)
              refine go_op rfl (ev_st (i := 2) rfl rfl h rfl rfl rfl rfl rfl fun w h => ?_)
              refine go_op rfl (ev_st (i := 0) rfl rfl h rfl rfl rfl rfl rfl fun w h => ?_)
              exact go_fin (go_stop (G := Nat × Nat × Nat) (_, _, _) rfl ⟨rfl, rfl, rfl, rfl, rfl, rfl, rfl, rfl, rfl, trivial⟩ (Bk.out (i := 1) (j := 2) (k := 0) h rfl rfl rfl (by decide) (by decide) (by decide)) trivial)
            refine go_op rfl (ev_al rfl h fun w h => ?_)
            refine go_alt rfl (ev_call rfl rfl h cM2 fun w h => ?_) ?_
            · refine go_alt rfl (ev_call rfl rfl h cM fun w h => ?_) ?_
              · refine go_op rfl (ev_al rfl h fun w h => ?_)
                refine go_op rfl (ev_st (i := 0) rfl rfl h rfl rfl rfl rfl rfl fun w h => ?_)
                refine go_op rfl (ev_st (i := 2) rfl rfl h rfl rfl rfl rfl rfl fun w h => ?_)
                refine go_op rfl (ev_st (i := 1) rfl rfl h rfl rfl rfl rfl rfl fun w h => ?_)
                exact go_fin (go_stop (G := Nat × Nat × Nat) (_, _, _) rfl ⟨rfl, rfl, rfl, rfl, rfl, rfl, rfl, rfl, rfl, trivial⟩ (Bk.out (i := 0) (j := 2) (k := 1) h rfl rfl rfl (by decide) (by decide) (by decide)) trivial)
              refine go_op rfl (ev_al rfl h fun w h => ?_)
              refine go_op rfl (ev_call rfl rfl h cM fun w h => ?_)
              refine go_op rfl (ev_st (i := 0) rfl rfl h rfl rfl rfl rfl rfl fun w h => ?_)
              refine go_op rfl (ev_st (i := 2) rfl rfl h rfl rfl rfl rfl rfl fun w h => ?_)
              refine go_op rfl (ev_st (i := 1) rfl rfl h rfl rfl rfl rfl rfl fun w h => ?_)
              exact go_fin (go_stop (G := Nat × Nat × Nat) (_, _, _) rfl ⟨rfl, rfl, rfl, rfl, rfl, rfl, rfl, rfl, rfl, trivial⟩ (Bk.out (i := 0) (j := 2) (k := 1) h rfl rfl rfl (by decide) (by decide) (by decide)) trivial)
            refine go_op rfl (ev_al rfl h fun w h => ?_)
            refine go_op rfl (ev_call rfl rfl h cM2 fun w h => ?_)
            refine go_op rfl (ev_call rfl rfl h cM fun w h => ?_)
            refine go_op rfl (ev_st (i := 0) rfl rfl h rfl rfl rfl rfl rfl fun w h => ?_)
            refine go_op rfl (ev_st (i := 2) rfl rfl h rfl rfl rfl rfl rfl fun w h => ?_)
            refine go_op rfl (ev_st (i := 1) rfl rfl h rfl rfl rfl rfl rfl fun w h => ?_)
            exact go_fin (go_stop (G := Nat × Nat × Nat) (_, _, _) rfl ⟨rfl, rfl, rfl, rfl, rfl, rfl, rfl, rfl, rfl, trivial⟩ (Bk.out (i := 0) (j := 2) (k := 1) h rfl rfl rfl (by decide) (by decide) (by decide)) trivial)
          refine go_alt rfl (ev_al rfl h fun w h => ?_) ?_
          · refine go_alt rfl (ev_call rfl rfl h cM fun w h => ?_) ?_
            · refine go_op rfl ?_
              refine sp ?_
              refine gol_nil ?_
              refine go_alt rfl (ev_call rfl rfl h cM2 fun w h => ?_) ?_
              · refine go_alt rfl (ev_call rfl rfl h cM fun w h => ?_) ?_
                · refine go_op rfl (ev_al rfl h fun w h => ?_)
                  refine go_op rfl (ev_st (i := 1) rfl rfl h rfl rfl rfl rfl rfl fun w h => ?_)
                  refine go_op rfl (ev_st (i := 2) rfl rfl h rfl rfl rfl rfl rfl fun w h => ?_)
                  refine go_op rfl (ev_st (i := 0) rfl rfl h rfl rfl rfl rfl rfl fun w h => ?_)
                  exact go_fin (go_stop (G := Nat × Nat × Nat) (_, _, _) rfl ⟨rfl, rfl, rfl, rfl, rfl, rfl, rfl, rfl, rfl, trivial⟩ (Bk.out (i := 1) (j := 2) (k := 0) h rfl rfl rfl (by decide) (by decide) (by decide)) trivial)
                refine go_op rfl (ev_al rfl h fun w h => ?_)
                refine go_op rfl (ev_call rfl rfl h cM fun w h => ?_)
                refine go_op rfl (ev_st (i := 1) rfl rfl h rfl rfl rfl rfl rfl fun w h => ?_)
                refine go_op rfl (ev_st (i := 2) rfl rfl h rfl rfl rfl rfl rfl fun w h => ?_)
                refine go_op rfl (ev_st (i := 0) rfl rfl h rfl rfl rfl rfl rfl fun w h => ?_)
                exact go_fin (go_stop (G := Nat × Nat × Nat) (_, _, _) rfl ⟨rfl, rfl, rfl, rfl, rfl, rfl, rfl, rfl, rfl, trivial⟩ (Bk.out (i := 1) (j := 2) (k := 0) h rfl rfl rfl (by decide) (by decide) (by decide)) trivial)
              refine go_op rfl (ev_al rfl h fun w h => ?_)
              refine go_op rfl (ev_call rfl rfl h cM2 fun w h => ?_)
              refine go_op rfl (ev_call rfl rfl h cM fun w h => ?_)
              refine go_op rfl (ev_st (i := 1) rfl rfl h rfl rfl rfl rfl rfl fun w h => ?_)
              refine go_op rfl (ev_st (i := 2) rfl rfl h rfl rfl rfl rfl rfl fun w h => ?_)
              refine go_op rfl (ev_st (i := 0) rfl rfl h rfl rfl rfl rfl rfl fun w h => ?_)
              exact go_fin (go_stop (G := Nat × Nat × Nat) (_, _, _) rfl ⟨rfl, rfl, rfl, rfl, rfl, rfl, rfl, rfl, rfl, trivial⟩ (Bk.out (i := 1) (j := 2) (k := 0) h rfl rfl rfl (by decide) (by decide) (by decide)) trivial)
            refine go_op rfl (ev_al rfl h fun w h => ?_)
            refine go_op rfl (ev_call rfl rfl h cM fun w h => ?_)
            refine go_op rfl ?_
            refine sp ?_
            refine gol_nil ?_
            refine go_op rfl (ev_call rfl rfl h cM2 fun w h => ?_)
            refine go_op rfl (ev_call rfl rfl h cM fun w h => ?_)
            refine go_op rfl (ev_st (i := 1) rfl rfl h rfl rfl rfl rfl rfl fun w h => ?_)
            refine go_op rfl (ev_st (i := 2) rfl rfl h rfl rfl rfl rfl rfl fun w h => ?_)
            refine go_op rfl (ev_st (i := 0) rfl rfl h rfl rfl rfl rfl rfl fun w h => ?_)
            exact go_fin (go_stop (G := Nat × Nat × Nat) (_, _, _) rfl ⟨rfl, rfl, rfl, rfl, rfl, rfl, rfl, rfl, rfl, trivial⟩ (Bk.out (i := 1) (j := 2) (k := 0) h rfl rfl rfl (by decide) (by decide) (by decide)) trivial)
          refine go_op rfl (ev_al rfl h fun w h => ?_)
          refine go_alt rfl (ev_call rfl rfl h cM fun w h => ?_) ?_
          · refine go_op rfl ?_
            refine sp ?_
            refine gol_nil ?_
            refine go_alt rfl (ev_call rfl rfl h cM2 fun w h => ?_) ?_
            · refine go_alt rfl (ev_call rfl rfl h cM fun w h => ?_) ?_
              · refine go_op rfl (ev_al rfl h fun w h => ?_)
                refine go_op rfl (ev_st (i := 0) rfl rfl h rfl rfl rfl rfl rfl fun w h => ?_)
                refine go_op rfl (ev_st (i := 2) rfl rfl h rfl rfl rfl rfl rfl fun w h => ?_)
                refine go_op rfl (ev_st (i := 1) rfl rfl h rfl rfl rfl rfl rfl fun w h => ?_)
                exact go_fin (go_stop (G := Nat × Nat × Nat) (_, _, _) rfl ⟨rfl, rfl, rfl, rfl, rfl, rfl, rfl, rfl, rfl, trivial⟩ (Bk.out (i := 0) (j := 2) (k := 1) h rfl rfl rfl (by decide) (by decide) (by decide)) trivial)
              refine go_op rfl (ev_al rfl h fun w h => ?_)
              refine go_op rfl (ev_call rfl rfl h cM fun w h => ?_)
              refine go_op rfl (ev_st (i := 0) rfl rfl h rfl rfl rfl rfl rfl fun w h => ?_)
              refine go_op rfl (ev_st (i := 2) rfl rfl h rfl rfl rfl rfl rfl fun w h => ?_)
              refine go_op rfl (ev_st (i := 1) rfl rfl h rfl rfl rfl rfl rfl fun w h => ?_)
              exact go_fin (go_stop (G := Nat × Nat × Nat) (_, _, _) rfl ⟨rfl, rfl, rfl, rfl, rfl, rfl, rfl, rfl, rfl, trivial⟩ (Bk.out (i := 0) (j := 2) (k := 1) h rfl rfl rfl (by decide) (by decide) (by decide)) trivial)
            refine go_op rfl (ev_al rfl h fun w h => ?_)
            refine go_op rfl (ev_call rfl rfl h cM2 fun w h => ?_)
            refine go_op rfl (ev_call rfl rfl h cM fun w h => ?_)
            refine go_op rfl (ev_st (i := 0) rfl rfl h rfl rfl rfl rfl rfl fun w h => ?_)
            refine go_op rfl (ev_st (i := 2) rfl rfl h rfl rfl rfl rfl rfl fun w h => ?_)
            refine go_op rfl (ev_st (i := 1) rfl rfl h rfl rfl rfl rfl rfl fun w h => ?_)
            exact go_fin (go_stop (G := Nat × Nat × Nat) (_, _, _) rfl ⟨rfl, rfl, rfl, rfl, rfl, rfl, rfl, rfl, rfl, trivial⟩ (Bk.out (i := 0) (j := 2) (k := 1) h rfl rfl rfl (by decide) (by decide) (by decide)) trivial)
          refine go_op rfl (ev_al rfl h fun w h => ?_)
          refine go_op rfl (ev_call rfl rfl h cM fun w h => ?_)
          refine go_op rfl ?_
          refine sp ?_
          refine gol_nil ?_
          refine go_op rfl (ev_call rfl rfl h cM2 fun w h => ?_)
          refine go_op rfl (ev_call rfl rfl h cM fun w h => ?_)
          refine go_op rfl (ev_st (i := 0) rfl rfl h rfl rfl rfl rfl rfl fun w h => ?_)
          refine go_op rfl (ev_st (i := 2) rfl rfl h rfl rfl rfl rfl rfl fun w h => ?_)
          refine go_op rfl (ev_st (i := 1) rfl rfl h rfl rfl rfl rfl rfl fun w h => ?_)
          exact go_fin (go_stop (G := Nat × Nat × Nat) (_, _, _) rfl ⟨rfl, rfl, rfl, rfl, rfl, rfl, rfl, rfl, rfl, trivial⟩ (Bk.out (i := 0) (j := 2) (k := 1) h rfl rfl rfl (by decide) (by decide) (by decide)) trivial)
        refine go_op rfl (ev_al rfl h fun w h => ?_)
        refine go_alt rfl (ev_call rfl rfl h cM fun w h => ?_) ?_
        · refine go_op rfl ?_
          refine sp ?_
          refine gol_nil ?_
          refine go_alt rfl (ev_call rfl rfl h cM2 fun w h => ?_) ?_
          · refine go_alt rfl (ev_call rfl rfl h cM fun w h => ?_) ?_
            · refine go_alt rfl (ev_al rfl h fun w h => ?_) ?_
              · refine go_op rfl (ev_al rfl h fun w h => ?_)
                refine go_op rfl (ev_st (i := 1) rfl rfl h rfl rfl rfl rfl rfl fun w h => ?_)
                refine go_op rfl (ev_st (i := 0) rfl rfl h rfl rfl rfl rfl rfl fun w h => ?_)
                refine go_op rfl (ev_st (i := 2) rfl rfl h rfl rfl rfl rfl rfl fun w h => ?_)
                exact go_fin (go_stop (G := Nat × Nat × Nat) (_, _, _) rfl ⟨rfl, rfl, rfl, rfl, rfl, rfl, rfl, rfl, rfl, trivial⟩ (Bk.out (i := 1) (j := 0) (k := 2) h rfl rfl rfl (by decide) (by decide) (by decide)) trivial)
              refine go_op rfl (ev_al rfl h fun w h => ?_)
              refine go_op rfl (ev_al rfl h fun w h => ?_)
              refine go_op rfl (ev_st (i := 0) rfl rfl h rfl rfl rfl rfl rfl fun w h => ?_)
              refine go_op rfl (ev_st (i := 1) rfl rfl h rfl rfl rfl rfl rfl fun w h => ?_)
              refine go_op rfl (ev_st (i := 2) rfl rfl h rfl rfl rfl rfl rfl fun w h => ?_)
              exact go_fin (go_stop (G := Nat × Nat × Nat) (_, _, _) rfl ⟨rfl, rfl, rfl, rfl, rfl, rfl, rfl, rfl, rfl, trivial⟩ (Bk.out (i := 0) (j := 1) (k := 2) h rfl rfl rfl (by decide) (by decide) (by decide)) trivial)
            refine go_alt rfl (ev_al rfl h fun w h => ?_) ?_
            · refine go_alt rfl (ev_call rfl rfl h cM fun w h => ?_) ?_
              · refine go_op rfl (ev_al rfl h fun w h => ?_)
                refine go_op rfl (ev_st (i := 1) rfl rfl h rfl rfl rfl rfl rfl fun w h => ?_)
                refine go_op rfl (ev_st (i := 0) rfl rfl h rfl rfl rfl rfl rfl fun w h => ?_)
                refine go_op rfl (ev_st (i := 2) rfl rfl h rfl rfl rfl rfl rfl fun w h => ?_)
                exact go_fin (go_stop (G := Nat × Nat × Nat) (_, _, _) rfl ⟨rfl, rfl, rfl, rfl, rfl, rfl, rfl, rfl, rfl, trivial⟩ (Bk.out (i := 1) (j := 0) (k := 2) h rfl rfl rfl (by decide) (by decide) (by decide)) trivial)
              refine go_op rfl (ev_al rfl h fun w h => ?_)
              refine go_op rfl (ev_call rfl rfl h cM fun w h => ?_)
              refine go_op rfl (ev_st (i := 1) rfl rfl h rfl rfl rfl rfl rfl fun w h => ?_)
              refine go_op rfl (ev_st (i := 0) rfl rfl h rfl rfl rfl rfl rfl fun w h => ?_)
              refine go_op rfl (ev_st (i := 2) rfl rfl h rfl rfl rfl rfl rfl fun w h => ?_)
              exact go_fin (go_stop (G := Nat × Nat × Nat) (_, _, _) rfl ⟨rfl, rfl, rfl, rfl, rfl, rfl, rfl, rfl, rfl, trivial⟩ (Bk.out (i := 1) (j := 0) (k := 2) h rfl rfl rfl (by decide) (by decide) (by decide)) trivial)
            refine go_op rfl (ev_al rfl h fun w h => ?_)
            refine go_alt rfl (ev_call rfl rfl h cM fun w h => ?_) ?_
            · refine go_op rfl (ev_al rfl h fun w h => ?_)
              refine go_op rfl (ev_st (i := 0) rfl rfl h rfl rfl rfl rfl rfl fun w h => ?_)
              refine go_op rfl (ev_st (i := 1) rfl rfl h rfl rfl rfl rfl rfl fun w h => ?_)
              refine go_op rfl (ev_st (i := 2) rfl rfl h rfl rfl rfl rfl rfl fun w h => ?_)
              exact go_fin (go_stop (G := Nat × Nat × Nat) (_, _, _) rfl ⟨rfl, rfl, rfl, rfl, rfl, rfl, rfl, rfl, rfl, trivial⟩ (Bk.out (i := 0) (j := 1) (k := 2) h rfl rfl rfl (by decide) (by decide) (by decide)) trivial)
            refine go_op rfl (ev_al rfl h fun w h => ?_)
            refine go_op rfl (ev_call rfl rfl h cM fun w h => ?_)
            refine go_op rfl (ev_st (i := 0) rfl rfl h rfl rfl rfl rfl rfl fun w h => ?_)
            refine go_op rfl (ev_st (i := 1) rfl rfl h rfl rfl rfl rfl rfl fun w h => ?_)
            refine go_op rfl (ev_st (i := 2) rfl rfl h rfl rfl rfl rfl rfl fun w h => ?_)
            exact go_fin (go_stop (G := Nat × Nat × Nat) (_, _, _) rfl ⟨rfl, rfl, rfl, rfl, rfl, rfl, rfl, rfl, rfl, trivial⟩ (Bk.out (i := 0) (j := 1) (k := 2) h rfl rfl rfl (by decide) (by decide) (by decide)) trivial)
          refine go_alt rfl (ev_al rfl h fun w h => ?_) ?_
          · refine go_alt rfl (ev_call rfl rfl h cM2 fun w h => ?_) ?_
            · refine go_alt rfl (ev_call rfl rfl h cM fun w h => ?_) ?_
              · refine go_op rfl (ev_al rfl h fun w h => ?_)
                refine go_op rfl (ev_st (i := 1) rfl rfl h rfl rfl rfl rfl rfl fun w h => ?_)
                refine go_op rfl (ev_st (i := 0) rfl rfl h rfl rfl rfl rfl rfl fun w h => ?_)
                refine go_op rfl (ev_st (i := 2) rfl rfl h rfl rfl rfl rfl rfl fun w h => ?_)
                exact go_fin (go_stop (G := Nat × Nat × Nat) (_, _, _) rfl ⟨rfl, rfl, rfl, rfl, rfl, rfl, rfl, rfl, rfl, trivial⟩ (Bk.out (i := 1) (j := 0) (k := 2) h rfl rfl rfl (by decide) (by decide) (by decide)) trivial)
              refine go_op rfl (ev_al rfl h fun w h => ?_)
              refine go_op rfl (ev_call rfl rfl h cM fun w h => ?_)
              refine go_op rfl (ev_st (i := 1) rfl rfl h rfl rfl rfl rfl rfl fun w h => ?_)
              refine go_op rfl (ev_st (i := 0) rfl rfl h rfl rfl rfl rfl rfl fun w h => ?_)
              refine go_op rfl (ev_st (i := 2) rfl rfl h rfl rfl rfl rfl rfl fun w h => ?_)
              exact go_fin (go_stop (G := Nat × Nat × Nat) (_, _, _) rfl ⟨rfl, rfl, rfl, rfl, rfl, rfl, rfl, rfl, rfl, trivial⟩ (Bk.out (i := 1) (j := 0) (k := 2) h rfl rfl rfl (by decide) (by decide) (by decide)) trivial)
            refine go_op rfl (ev_al rfl h fun w h => ?_)
            refine go_op rfl (ev_call rfl rfl h cM2 fun w h => ?_)
            refine go_op rfl (ev_call rfl rfl h cM fun w h => ?_)
            refine go_op rfl (ev_st (i := 1) rfl rfl h rfl rfl rfl rfl rfl fun w h => ?_)
            refine go_op rfl (ev_st (i := 0) rfl rfl h rfl rfl rfl rfl rfl fun w h => ?_)
            refine go_op rfl (ev_st (i := 2) rfl rfl h rfl rfl rfl rfl rfl fun w h => ?_)
            exact go_fin (go_stop (G := Nat × Nat × Nat) (_, _, _) rfl ⟨rfl, rfl, rfl, rfl, rfl, rfl, rfl, rfl, rfl, trivial⟩ (Bk.out (i := 1) (j := 0) (k := 2) h rfl rfl rfl (by decide) (by decide) (by decide)) trivial)
          refine go_op rfl (ev_al rfl h fun w h => ?_)
          refine go_alt rfl (ev_call rfl rfl h cM2 fun w h => ?_) ?_
          · refine go_alt rfl (ev_call rfl rfl h cM fun w h => ?_) ?_
            · refine go_op rfl (ev_al rfl h fun w h => ?_)
              refine go_op rfl (ev_st (i := 0) rfl rfl h rfl rfl rfl rfl rfl fun w h => ?_)
              refine go_op rfl (ev_st (i := 1) rfl rfl h rfl rfl rfl rfl rfl fun w h => ?_)
              refine go_op rfl (ev_st (i := 2) rfl rfl h rfl rfl rfl rfl rfl fun w h => ?_)
              exact go_fin (go_stop (G := Nat × Nat × Nat) (_, _, _) rfl ⟨rfl, rfl, rfl, rfl, rfl, rfl, rfl, rfl, rfl, trivial⟩ (Bk.out (i := 0) (j := 1) (k := 2) h rfl rfl rfl (by decide) (by decide) (by decide)) trivial)
            refine go_op rfl (ev_al rfl h fun w h => ?_)
            refine go_op rfl (ev_call rfl rfl h cM fun w h => ?_)
            refine go_op rfl (ev_st (i := 0) rfl rfl h rfl rfl rfl rfl rfl fun w h => ?_)
            refine go_op rfl (ev_st (i := 1) rfl rfl h rfl rfl rfl rfl rfl fun w h => ?_)
            refine go_op rfl (ev_st (i := 2) rfl rfl h rfl rfl rfl rfl rfl fun w h => ?_)
            exact go_fin (go_stop (G := Nat × Nat × Nat) (_, _, _) rfl ⟨rfl, rfl, rfl, rfl, rfl, rfl, rfl, rfl, rfl, trivial⟩ (Bk.out (i := 0) (j := 1) (k := 2) h rfl rfl rfl (by decide) (by decide) (by decide)) trivial)
          refine go_op rfl (ev_al rfl h fun w h => ?_)
          refine go_op rfl (ev_call rfl rfl h cM2 fun w h => ?_)
          refine go_op rfl (ev_call rfl rfl h cM fun w h => ?_)
          refine go_op rfl (ev_st (i := 0) rfl rfl h rfl rfl rfl rfl rfl fun w h => ?_)
          refine go_op rfl (ev_st (i := 1) rfl rfl h rfl rfl rfl rfl rfl fun w h => ?_)
          refine go_op rfl (ev_st (i := 2) rfl rfl h rfl rfl rfl rfl rfl fun w h => ?_)
          exact go_fin (go_stop (G := Nat × Nat × Nat) (_, _, _) rfl ⟨rfl, rfl, rfl, rfl, rfl, rfl, rfl, rfl, rfl, trivial⟩ (Bk.out (i := 0) (j := 1) (k := 2) h rfl rfl rfl (by decide) (by decide) (by decide)) trivial)
        refine go_alt rfl (ev_al rfl h fun w h => ?_) ?_
        · refine go_alt rfl (ev_call rfl rfl h cM fun w h => ?_) ?_
          · refine go_op rfl ?_
            refine sp ?_
            refine gol_nil ?_
            refine go_alt rfl (ev_call rfl rfl h cM2 fun w h => ?_) ?_
            · refine go_alt rfl (ev_call rfl rfl h cM fun w h => ?_) ?_
              · refine go_op rfl (ev_al rfl h fun w h => ?_)
                refine go_op rfl (ev_st (i := 1) rfl rfl h rfl rfl rfl rfl rfl fun w h => ?_)
                refine go_op rfl (ev_st (i := 0) rfl rfl h rfl rfl rfl rfl rfl fun w h => ?_)
                refine go_op rfl (ev_st (i := 2) rfl rfl h rfl rfl rfl rfl rfl fun w h => ?_)
                exact go_fin (go_stop (G := Nat × Nat × Nat) (_, _, _) rfl ⟨rfl, rfl, rfl, rfl, rfl, rfl, rfl, rfl, rfl, trivial⟩ (Bk.out (i := 1) (j := 0) (k := 2) h rfl rfl rfl (by decide) (by decide) (by decide)) trivial)
              refine go_op rfl (ev_al rfl h fun w h => ?_)
              refine go_op rfl (ev_call rfl rfl h cM fun w h => ?_)
              refine go_op rfl (ev_st (i := 1) rfl rfl h rfl rfl rfl rfl rfl fun w h => ?_)
              refine go_op rfl (ev_st (i := 0) rfl rfl h rfl rfl rfl rfl rfl fun w h => ?_)
              refine go_op rfl (ev_st (i := 2) rfl rfl h rfl rfl rfl rfl rfl fun w h => ?_)
              exact go_fin (go_stop (G := Nat × Nat × Nat) (_, _, _) rfl ⟨rfl, rfl, rfl, rfl, rfl, rfl, rfl, rfl, rfl, trivial⟩ (Bk.out (i := 1) (j := 0) (k := 2) h rfl rfl rfl (by decide) (by decide) (by decide)) trivial)
            refine go_op rfl (ev_al rfl h fun w h => ?_)
            refine go_op rfl (ev_call rfl rfl h cM2 fun w h => ?_)
            refine go_op rfl (ev_call rfl rfl h cM fun w h => ?_)
            refine go_op rfl (ev_st (i := 1) rfl rfl h rfl rfl rfl rfl rfl fun w h => ?_)
            refine go_op rfl (ev_st (i := 0) rfl rfl h rfl rfl rfl rfl rfl fun w h => ?_)
            refine go_op rfl (ev_st (i := 2) rfl rfl h rfl rfl rfl rfl rfl fun w h => ?_)
            exact go_fin (go_stop (G := Nat × Nat × Nat) (_, _, _) rfl ⟨rfl, rfl, rfl, rfl, rfl, rfl, rfl, rfl, rfl, trivial⟩ (Bk.out (i := 1) (j := 0) (k := 2) h rfl rfl rfl (by decide) (by decide) (by decide)) trivial)
          refine go_op rfl (ev_al rfl h fun w h => ?_)
          refine go_op rfl (ev_call rfl rfl h cM fun w h => ?_)
          refine go_op rfl ?_
          refine sp ?_
          refine gol_nil ?_
          refine go_op rfl (ev_call rfl rfl h cM2 fun w h => ?_)
          refine go_op rfl (ev_call rfl rfl h cM fun w h => ?_)
          refine go_op rfl (ev_st (i := 1) rfl rfl h rfl rfl rfl rfl rfl fun w h => ?_)
          refine go_op rfl (ev_st (i := 0) rfl rfl h rfl rfl rfl rfl rfl fun w h => ?_)
          refine go_op rfl (ev_st (i := 2) rfl rfl h rfl rfl rfl rfl rfl fun w h => ?_)
          exact go_fin (go_stop (G := Nat × Nat × Nat) (_, _, _) rfl ⟨rfl, rfl, rfl, rfl, rfl, rfl, rfl, rfl, rfl, trivial⟩ (Bk.out (i := 1) (j := 0) (k := 2) h rfl rfl rfl (by decide) (by decide) (by decide)) trivial)
        refine go_op rfl (ev_al rfl h fun w h => ?_)
        refine go_alt rfl (ev_call rfl rfl h cM fun w h => ?_) ?_
        · refine go_op rfl ?_
          refine sp ?_
          refine gol_nil ?_
          refine go_alt rfl (ev_call rfl rfl h cM2 fun w h => ?_) ?_
          · refine go_alt rfl (ev_call rfl rfl h cM fun w h => ?_) ?_
            · refine go_op rfl (ev_al rfl h fun w h => ?_)
              refine go_op rfl (ev_st (i := 0) rfl rfl h rfl rfl rfl rfl rfl fun w h => ?_)
              refine go_op rfl (ev_st (i := 1) rfl rfl h rfl rfl rfl rfl rfl fun w h => ?_)
              refine go_op rfl (ev_st (i := 2) rfl rfl h rfl rfl rfl rfl rfl fun w h => ?_)
              exact go_fin (go_stop (G := Nat × Nat × Nat) (_, _, _) rfl ⟨rfl, rfl, rfl, rfl, rfl, rfl, rfl, rfl, rfl, trivial⟩ (Bk.out (i := 0) (j := 1) (k := 2) h rfl rfl rfl (by decide) (by decide) (by decide)) trivial)
            refine go_op rfl (ev_al rfl h fun w h => ?_)
            refine go_op rfl (ev_call rfl rfl h cM fun w h => ?_)
            refine go_op rfl (ev_st (i := 0) rfl rfl h rfl rfl rfl rfl rfl fun w h => ?_)
            refine go_op rfl (ev_st (i := 1) rfl rfl h rfl rfl rfl rfl rfl fun w h => ?_)
            refine go_op rfl (ev_st (i := 2) rfl rfl h rfl rfl rfl rfl rfl fun w h => ?_)
            exact go_fin (go_stop (G := Nat × Nat × Nat) (_, _, _) rfl ⟨rfl, rfl, rfl, rfl, rfl, rfl, rfl, rfl, rfl, trivial⟩ (Bk.out (i := 0) (j := 1) (k := 2) h rfl rfl rfl (by decide) (by decide) (by decide)) trivial)
          refine go_op rfl (ev_al rfl h fun w h => ?_)
          refine go_op rfl (ev_call rfl rfl h cM2 fun w h => ?_)
          refine go_op rfl (ev_call rfl rfl h cM fun w h => ?_)
          refine go_op rfl (ev_st (i := 0) rfl rfl h rfl rfl rfl rfl rfl fun w h => ?_)
          refine go_op rfl (ev_st (i := 1) rfl rfl h rfl rfl rfl rfl rfl fun w h => ?_)
          refine go_op rfl (ev_st (i := 2) rfl rfl h rfl rfl rfl rfl rfl fun w h => ?_)
          exact go_fin (go_stop (G := Nat × Nat × Nat) (_, _, _) rfl ⟨rfl, rfl, rfl, rfl, rfl, rfl, rfl, rfl, rfl, trivial⟩ (Bk.out (i := 0) (j := 1) (k := 2) h rfl rfl rfl (by decide) (by decide) (by decide)) trivial)
        refine go_op rfl (ev_al rfl h fun w h => ?_)
        refine go_op rfl (ev_call rfl rfl h cM fun w h => ?_)
        refine go_op rfl ?_
        refine sp ?_
        refine gol_nil ?_
        refine go_op rfl (ev_call rfl rfl h cM2 fun w h => ?_)
        refine go_op rfl (ev_call rfl rfl h cM fun w h => ?_)
        refine go_op rfl (ev_st (i := 0) rfl rfl h rfl rfl rfl rfl rfl fun w h => ?_)
        refine go_op rfl (ev_st (i := 1) rfl rfl h rfl rfl rfl rfl rfl fun w h => ?_)
        refine go_op rfl (ev_st (i := 2) rfl rfl h rfl rfl rfl rfl rfl fun w h => ?_)
        exact go_fin (go_stop (G := Nat × Nat × Nat) (_, _, _) rfl ⟨rfl, rfl, rfl, rfl, rfl, rfl, rfl, rfl, rfl, trivial⟩ (Bk.out (i := 0) (j := 1) (k := 2) h rfl rfl rfl (by decide) (by decide) (by decide)) trivial)
      rintro ⟨b20, b21, b22⟩ w12 ⟨hqa12, hqb12, hqc12, hx12, le20, le21, le22, ne1, ne2, ne3⟩
      have ha12 := ha11.ext hx12
      have hn12 := hn11.ext hx12
      have hqX12 := hqX11.ext hx12
      have hz12 := hz11.trans hx12
      have ltx := hqX11.lt
      have ltd := ha11.lt
      have ltn := hn11.lt
      have nx0 : bx ≠ b20 := by omega
      have nx1 : bx ≠ b21 := by omega
      have nx2 : bx ≠ b22 := by omega
      have nd0 : bd ≠ b20 := by omega
      have nd1 : bd ≠ b21 := by omega
      have nd2 : bd ≠ b22 := by omega
      have nn0 : bn ≠ b20 := by omega
      have nn1 : bn ≠ b21 := by omega
      have nn2 : bn ≠ b22 := by omega
      repeat (first | refine sp ?_ | (refine is_load ?_; refine ld ?_) | (refine is_store ?_; refine sr ?_) | (refine is_alloc ?_; refine al ?_) | (refine is_box ?_; refine bx ?_) | (refine isl_load ?_; refine ldl ?_) | (refine isl_store ?_; refine srl ?_) | (refine isl_alloc ?_; refine all' ?_) | (refine isl_box ?_; refine bxl ?_))
      refine dr Try.follows ?_
      repeat (first | refine sp ?_ | (refine is_load ?_; refine ld ?_) | (refine is_store ?_; refine sr ?_) | (refine is_alloc ?_; refine al ?_) | (refine is_box ?_; refine bx ?_) | (refine isl_load ?_; refine ldl ?_) | (refine isl_store ?_; refine srl ?_) | (refine isl_alloc ?_; refine all' ?_) | (refine isl_box ?_; refine bxl ?_))
      refine go_name (F := fun y => At y bd [.slice s1 A.dump.slots.length c1, .slice s2 A.dump.free.length c2] 31 ∧ At y bn [.slice s3 R.dump.slots.length c3, .slice s4 R.dump.free.length c4] 31 ∧ At y b20 [.int .i64 X.key, .int .i64 X.val, .int .u32 (X.left : Int), .int .u32 (X.right : Int), .int .i64 X.size, .int .i64 X.sum, .int .i64 X.mn, .int .i64 X.mx] 41 ∧ At y b21 [.int .i64 M2.key, .int .i64 M2.val, .int .u32 (M2.left : Int), .int .u32 (M2.right : Int), .int .i64 M2.size, .int .i64 M2.sum, .int .i64 M2.mn, .int .i64 M2.mx] 41 ∧ At y b22 [.int .i64 M.key, .int .i64 M.val, .int .u32 (M.left : Int), .int .u32 (M.right : Int), .int .i64 M.size, .int .i64 M.sum, .int .i64 M.mn, .int .i64 M.mx] 41 ∧ Ext w12 y) ⟨by (repeat (first | assumption | (refine At.new' (by (first | omega | (simp; done) | (simp; omega))) _ _) | apply At.alloc | apply At.drewN | apply At.setRow | (apply At.setRow_neF; first | assumption | (apply Ne.symm; assumption) | omega) | (apply At.extF; assumption))), by (repeat (first | assumption | (refine At.new' (by (first | omega | (simp; done) | (simp; omega))) _ _) | apply At.alloc | apply At.drewN | apply At.setRow | (apply At.setRow_neF; first | assumption | (apply Ne.symm; assumption) | omega) | (apply At.extF; assumption))), by (repeat (first | assumption | (refine At.new' (by (first | omega | (simp; done) | (simp; omega))) _ _) | apply At.alloc | apply At.drewN | apply At.setRow | (apply At.setRow_neF; first | assumption | (apply Ne.symm; assumption) | omega) | (apply At.extF; assumption))), by (repeat (first | assumption | (refine At.new' (by (first | omega | (simp; done) | (simp; omega))) _ _) | apply At.alloc | apply At.drewN | apply At.setRow | (apply At.setRow_neF; first | assumption | (apply Ne.symm; assumption) | omega) | (apply At.extF; assumption))), by (repeat (first | assumption | (refine At.new' (by (first | omega | (simp; done) | (simp; omega))) _ _) | apply At.alloc | apply At.drewN | apply At.setRow | (apply At.setRow_neF; first | assumption | (apply Ne.symm; assumption) | omega) | (apply At.extF; assumption))), by (repeat (first | exact Fr.refl _ _ | assumption | apply Fr.drewN | apply Fr.alloc | (apply Fr.transF; assumption) | (refine Fr.setRow ?_ _ (by first | exact Or.inr (by (first | omega | (simp; done) | (simp; omega))) | (exact Or.inl (by first | assumption | (simp; done)))))))⟩ ?_
      rintro w13 ⟨ha13, hn13, hqa13, hqb13, hqc13, hx13⟩
      have hz13 := hz12.trans hx13
      refine go_call rfl rfl (c_at12 w13 _ _ R.dump o (hdN.ext hz13) hdl2 hol) ?_
      rintro _ w14 ⟨rfl, hx14⟩
      rw [dump_nd hwfR, nodeOf_us n1.use, hY]
      have ha14 := ha13.ext hx14
      have hn14 := hn13.ext hx14
      have hqa14 := hqa13.ext hx14
      have hqb14 := hqb13.ext hx14
      have hqc14 := hqc13.ext hx14
      have hz14 := hz13.trans hx14
      have hsz14 := hx14.size
      have ltha14 := ha14.lt
      have lthn14 := hn14.lt
      have lthqa14 := hqa14.lt
      have lthqb14 := hqb14.lt
      have lthqc14 := hqc14.lt
      unfold Nd.cells
      repeat (first | refine sp ?_ | (refine is_load ?_; refine ld ?_) | (refine is_store ?_; refine sr ?_) | (refine is_alloc ?_; refine al ?_) | (refine is_box ?_; refine bx ?_) | (refine isl_load ?_; refine ldl ?_) | (refine isl_store ?_; refine srl ?_) | (refine isl_alloc ?_; refine all' ?_) | (refine isl_box ?_; refine bxl ?_))
      refine go_name (F := fun y => At y bd [.slice s1 A.dump.slots.length c1, .slice s2 A.dump.free.length c2] 31 ∧ At y bn [.slice s3 R.dump.slots.length c3, .slice s4 R.dump.free.length c4] 31 ∧ At y w14.heap.size [.int .i64 Y.key, .int .i64 Y.val, .int .u32 (Y.left : Int), .int .u32 (Y.right : Int), .int .i64 Y.size, .int .i64 Y.sum, .int .i64 Y.mn, .int .i64 Y.mx] 41 ∧ At y b20 [.int .i64 X.key, .int .i64 X.val, .int .u32 (X.left : Int), .int .u32 (X.right : Int), .int .i64 X.size, .int .i64 X.sum, .int .i64 X.mn, .int .i64 X.mx] 41 ∧ At y b21 [.int .i64 M2.key, .int .i64 M2.val, .int .u32 (M2.left : Int), .int .u32 (M2.right : Int), .int .i64 M2.size, .int .i64 M2.sum, .int .i64 M2.mn, .int .i64 M2.mx] 41 ∧ At y b22 [.int .i64 M.key, .int .i64 M.val, .int .u32 (M.left : Int), .int .u32 (M.right : Int), .int .i64 M.size, .int .i64 M.sum, .int .i64 M.mn, .int .i64 M.mx] 41 ∧ Ext w14 y) ⟨by (repeat (first | assumption | (refine At.new' (by (first | omega | (simp; done) | (simp; omega))) _ _) | apply At.alloc | apply At.drewN | apply At.setRow | (apply At.setRow_neF; first | assumption | (apply Ne.symm; assumption) | omega) | (apply At.extF; assumption))), by (repeat (first | assumption | (refine At.new' (by (first | omega | (simp; done) | (simp; omega))) _ _) | apply At.alloc | apply At.drewN | apply At.setRow | (apply At.setRow_neF; first | assumption | (apply Ne.symm; assumption) | omega) | (apply At.extF; assumption))), by (repeat (first | assumption | (refine At.new' (by (first | omega | (simp; done) | (simp; omega))) _ _) | apply At.alloc | apply At.drewN | apply At.setRow | (apply At.setRow_neF; first | assumption | (apply Ne.symm; assumption) | omega) | (apply At.extF; assumption))), by (repeat (first | assumption | (refine At.new' (by (first | omega | (simp; done) | (simp; omega))) _ _) | apply At.alloc | apply At.drewN | apply At.setRow | (apply At.setRow_neF; first | assumption | (apply Ne.symm; assumption) | omega) | (apply At.extF; assumption))), by (repeat (first | assumption | (refine At.new' (by (first | omega | (simp; done) | (simp; omega))) _ _) | apply At.alloc | apply At.drewN | apply At.setRow | (apply At.setRow_neF; first | assumption | (apply Ne.symm; assumption) | omega) | (apply At.extF; assumption))), by (repeat (first | assumption | (refine At.new' (by (first | omega | (simp; done) | (simp; omega))) _ _) | apply At.alloc | apply At.drewN | apply At.setRow | (apply At.setRow_neF; first | assumption | (apply Ne.symm; assumption) | omega) | (apply At.extF; assumption))), by (repeat (first | exact Fr.refl _ _ | assumption | apply Fr.drewN | apply Fr.alloc | (apply Fr.transF; assumption) | (refine Fr.setRow ?_ _ (by first | exact Or.inr (by (first | omega | (simp; done) | (simp; omega))) | (exact Or.inl (by first | assumption | (simp; done)))))))⟩ ?_
      rintro w15 ⟨ha15, hn15, hqY15, hqa15, hqb15, hqc15, hx15⟩
      have hz15 := hz14.trans hx15
      generalize w14.heap.size = by_ at *
      refine go_drawE (Fr (fun _ => False) w15) 0 Try.follows (by kernel_rfl) (by kernel_rfl) (by kernel_rfl) ((Fr.refl _ _).drewN 1) ?_
      refine go_name (F := fun y => Ext w15 y) ((Fr.refl _ _).drewN 1) ?_
      rintro w16 hy16
      repeat (first | refine sp ?_ | (refine is_load ?_; refine ld ?_) | (refine is_store ?_; refine sr ?_) | (refine is_alloc ?_; refine al ?_) | (refine is_box ?_; refine bx ?_) | (refine isl_load ?_; refine ldl ?_) | (refine isl_store ?_; refine srl ?_) | (refine isl_alloc ?_; refine all' ?_) | (refine isl_box ?_; refine bxl ?_))
      refine gol_call rfl rfl (c_is w16 Y M2 Y.left Y.right y1 y2 rfl rfl) ?_
      rintro _ w17 ⟨rfl, hx17⟩
      have hy17 := hy16.trans hx17
      refine ⟨hy17, ?_⟩
      repeat (first | refine sp ?_ | (refine is_load ?_; refine ld ?_) | (refine is_store ?_; refine sr ?_) | (refine is_alloc ?_; refine al ?_) | (refine is_box ?_; refine bx ?_) | (refine isl_load ?_; refine ldl ?_) | (refine isl_store ?_; refine srl ?_) | (refine isl_alloc ?_; refine all' ?_) | (refine isl_box ?_; refine bxl ?_))
      refine gol_call rfl rfl (c_at12 w17 _ _ R.dump Y.left (hdN.ext (hz15.trans hy17)) hdl2 (by rw [y3]; exact hjl)) ?_
      rintro _ w18 ⟨rfl, hx18⟩
      rw [dump_nd hwfR, y3, nodeOf_us n2.use, hU]
      unfold Nd.cells
      have hy18 := hy17.trans hx18
      refine ⟨hy18, ?_⟩
      repeat (first | refine sp ?_ | (refine is_load ?_; refine ld ?_) | (refine is_store ?_; refine sr ?_) | (refine is_alloc ?_; refine al ?_) | (refine is_box ?_; refine bx ?_) | (refine isl_load ?_; refine ldl ?_) | (refine isl_store ?_; refine srl ?_) | (refine isl_alloc ?_; refine all' ?_) | (refine isl_box ?_; refine bxl ?_))
      refine gol_call rfl rfl (c_is w18 U X X.left M2.left u1 u2 u3 u4) ?_
      rintro _ w19 ⟨rfl, hx19⟩
      have hy19 := hy18.trans hx19
      refine ⟨hy19, ?_⟩
      repeat (first | refine sp ?_ | (refine is_load ?_; refine ld ?_) | (refine is_store ?_; refine sr ?_) | (refine is_alloc ?_; refine al ?_) | (refine is_box ?_; refine bx ?_) | (refine isl_load ?_; refine ldl ?_) | (refine isl_store ?_; refine srl ?_) | (refine isl_alloc ?_; refine all' ?_) | (refine isl_box ?_; refine bxl ?_))
      refine gol_call rfl rfl (c_at12 w19 _ _ R.dump Y.right (hdN.ext (hz15.trans hy19)) hdl2 (by rw [y4]; exact hkl)) ?_
      rintro _ w20 ⟨rfl, hx20⟩
      rw [dump_nd hwfR, y4, nodeOf_us n3.use, hV]
      unfold Nd.cells
      have hy20 := hy19.trans hx20
      refine ⟨hy20, ?_⟩
      repeat (first | refine sp ?_ | (refine is_load ?_; refine ld ?_) | (refine is_store ?_; refine sr ?_) | (refine is_alloc ?_; refine al ?_) | (refine is_box ?_; refine bx ?_) | (refine isl_load ?_; refine ldl ?_) | (refine isl_store ?_; refine srl ?_) | (refine isl_alloc ?_; refine all' ?_) | (refine isl_box ?_; refine bxl ?_))
      refine gol_call rfl rfl (c_is w20 V M M2.right M.right v1 v2 v3 v4) ?_
      rintro _ w21 ⟨rfl, hx21⟩
      have hy21 := hy20.trans hx21
      refine ⟨hy21, ?_⟩
      repeat (first | refine sp ?_ | (refine is_load ?_; refine ld ?_) | (refine is_store ?_; refine sr ?_) | (refine is_alloc ?_; refine al ?_) | (refine is_box ?_; refine bx ?_) | (refine isl_load ?_; refine ldl ?_) | (refine isl_store ?_; refine srl ?_) | (refine isl_alloc ?_; refine all' ?_) | (refine isl_box ?_; refine bxl ?_))
      have ha21 := ha15.ext hy21
      have hn21 := hn15.ext hy21
      have hqY21 := hqY15.ext hy21
      have hqa21 := hqa15.ext hy21
      have hqb21 := hqb15.ext hy21
      have hqc21 := hqc15.ext hy21
      have hz21 := hz15.trans hy21
      refine go_call rfl rfl (c_fresh w21 _ _ _ _ A.dump R.dump o (hdA.ext hz21) (hdN.ext hz21) hdl hdl2 hol (by rw [dump_al hwf]; exact n1.new) (by rw [dump_al hwfR]; exact n1.use)) ?_
      rintro _ w22 ⟨rfl, hx22⟩
      have ha22 := ha21.ext hx22
      have hn22 := hn21.ext hx22
      have hqY22 := hqY21.ext hx22
      have hqa22 := hqa21.ext hx22
      have hqb22 := hqb21.ext hx22
      have hqc22 := hqc21.ext hx22
      have hz22 := hz21.trans hx22
      repeat (first | refine sp ?_ | (refine is_load ?_; refine ld ?_) | (refine is_store ?_; refine sr ?_) | (refine is_alloc ?_; refine al ?_) | (refine is_box ?_; refine bx ?_) | (refine isl_load ?_; refine ldl ?_) | (refine isl_store ?_; refine srl ?_) | (refine isl_alloc ?_; refine all' ?_) | (refine isl_box ?_; refine bxl ?_))
      refine go_call rfl rfl (c_fresh w22 _ _ _ _ A.dump R.dump Y.left (hdA.ext hz22) (hdN.ext hz22) hdl hdl2 (by rw [y3]; exact hjl) (by rw [dump_al hwf, y3]; exact n2.new) (by rw [dump_al hwfR, y3]; exact n2.use)) ?_
      rintro _ w23 ⟨rfl, hx23⟩
      have ha23 := ha22.ext hx23
      have hn23 := hn22.ext hx23
      have hqY23 := hqY22.ext hx23
      have hqa23 := hqa22.ext hx23
      have hqb23 := hqb22.ext hx23
      have hqc23 := hqc22.ext hx23
      have hz23 := hz22.trans hx23
      repeat (first | refine sp ?_ | (refine is_load ?_; refine ld ?_) | (refine is_store ?_; refine sr ?_) | (refine is_alloc ?_; refine al ?_) | (refine is_box ?_; refine bx ?_) | (refine isl_load ?_; refine ldl ?_) | (refine isl_store ?_; refine srl ?_) | (refine isl_alloc ?_; refine all' ?_) | (refine isl_box ?_; refine bxl ?_))
      refine go_call rfl rfl (c_fresh w23 _ _ _ _ A.dump R.dump Y.right (hdA.ext hz23) (hdN.ext hz23) hdl hdl2 (by rw [y4]; exact hkl) (by rw [dump_al hwf, y4]; exact n3.new) (by rw [dump_al hwfR, y4]; exact n3.use)) ?_
      rintro _ w24 ⟨rfl, hx24⟩
      have ha24 := ha23.ext hx24
      have hn24 := hn23.ext hx24
      have hqY24 := hqY23.ext hx24
      have hqa24 := hqa23.ext hx24
      have hqb24 := hqb23.ext hx24
      have hqc24 := hqc23.ext hx24
      have hz24 := hz23.trans hx24
      have g24 := g6.ext (hx69.trans hz24)
      repeat (first | refine sp ?_ | (refine is_load ?_; refine ld ?_) | (refine is_store ?_; refine sr ?_) | (refine is_alloc ?_; refine al ?_) | (refine is_box ?_; refine bx ?_) | (refine isl_load ?_; refine ldl ?_) | (refine isl_store ?_; refine srl ?_) | (refine isl_alloc ?_; refine all' ?_) | (refine isl_box ?_; refine bxl ?_))
      refine go_call rfl rfl (p_Free w24 lo p q6 R g24.ar) ?_
      rintro _ w25 ⟨rfl, hx25⟩
      have ha25 := ha24.ext hx25
      have hn25 := hn24.ext hx25
      have hqY25 := hqY24.ext hx25
      have hqa25 := hqa24.ext hx25
      have hqb25 := hqb24.ext hx25
      have hqc25 := hqc24.ext hx25
      have hz25 := hz24.trans hx25
      repeat (first | refine sp ?_ | (refine is_load ?_; refine ld ?_) | (refine is_store ?_; refine sr ?_) | (refine is_alloc ?_; refine al ?_) | (refine is_box ?_; refine bx ?_) | (refine isl_load ?_; refine ldl ?_) | (refine isl_store ?_; refine srl ?_) | (refine isl_alloc ?_; refine all' ?_) | (refine isl_box ?_; refine bxl ?_))
      refine go_call rfl rfl (c_Kept w25 _ _ _ _ A.dump R.dump (hdA.ext hz25) (hdN.ext hz25) (kp6.kept hwf) hdl) ?_
      rintro _ w26 ⟨rfl, hx26⟩
      have hz26 := hz25.trans hx26
      have hx626 := hx69.trans hz26
      have own26 := Own.ext own6 hx626
      have g26 := g6.ext hx626
      repeat (first | refine sp ?_ | (refine is_load ?_; refine ld ?_) | (refine is_store ?_; refine sr ?_) | (refine is_alloc ?_; refine al ?_) | (refine is_box ?_; refine bx ?_) | (refine isl_load ?_; refine ldl ?_) | (refine isl_store ?_; refine srl ?_) | (refine isl_alloc ?_; refine all' ?_) | (refine isl_box ?_; refine bxl ?_))
      refine go_litG (l := [.int .u32 (o : Int)]) rfl rfl (by decide) (by decide) rfl ?_
      have hx27 : Ext w26 (w26.alloc (.cells [Value.int .u32 (o : Int)].toArray 23)) := by (repeat (first | exact Fr.refl _ _ | assumption | apply Fr.drewN | apply Fr.alloc | (apply Fr.transF; assumption) | (refine Fr.setRow ?_ _ (by first | exact Or.inr (by (first | omega | (simp; done) | (simp; omega))) | (exact Or.inl (by first | assumption | (simp; done)))))))
      have hat27 := At.new w26 [Value.int .u32 (o : Int)] 23
      have own27 := Own.ext own26 hx27
      have g27 := g26.ext hx27
      have hx627 := hx626.trans hx27
      have hsw := (hx06.trans hx627).size
      generalize w26.alloc (.cells [Value.int .u32 (o : Int)].toArray 23) = w27 at *
      generalize w26.heap.size = nb at *
      repeat (first | refine sp ?_ | (refine is_load ?_; refine ld ?_) | (refine is_store ?_; refine sr ?_) | (refine is_alloc ?_; refine al ?_) | (refine is_box ?_; refine bx ?_) | (refine isl_load ?_; refine ldl ?_) | (refine isl_store ?_; refine srl ?_) | (refine isl_alloc ?_; refine all' ?_) | (refine isl_box ?_; refine bxl ?_))
      refine go_appendG (r := 1) (c := 1) (sa := some ⟨nb, 0, none⟩) (news := [.int .u32 (o : Int)]) (by decide) rfl rfl rfl own27 (by
        intro j u hj
        exact ⟨_, _, rfl, by have := hat27.cell (i := j) (v := u) hj; simpa using this⟩) rfl (by intro u hu; simp at hu; subst hu; rfl) (by simp [maxLen]; omega) (by omega) hsw ?_
      intro v28 w28 ho28 hg28 hbk28
      have ho28' : OwnN w28 w.heap.size v28 (ms ++ [o]) := by
        unfold OwnN
        rw [List.map_append, List.length_append]
        exact ho28
      have b28 := b5.push g27 kp6 (Or.inr n1.use) hq6 (hf6.trans (hx627.mono fun _ e => e.elim)) (by omega) ho28' hg28 (fun b hb => (hbk28 b hb).imp id fun e => by omega)
      have hr28 : RdU w28 w28.heap.size v28 u32c (ms ++ [o]) := by
        have h1 := ho28'
        unfold OwnN at h1
        rw [← flatMap_one] at h1
        exact (Own.rd (enc := u32c) h1 rfl).up
      obtain ⟨sv28, cv28, rfl, _, _⟩ := Own.slice ho28'
      repeat (first | refine sp ?_ | (refine is_load ?_; refine ld ?_) | (refine is_store ?_; refine sr ?_) | (refine is_alloc ?_; refine al ?_) | (refine is_box ?_; refine bx ?_) | (refine isl_load ?_; refine ldl ?_) | (refine isl_store ?_; refine srl ?_) | (refine isl_alloc ?_; refine all' ?_) | (refine isl_box ?_; refine bxl ?_))
      refine go_call rfl rfl (c_KSound w28 lo p _ q6 _ R _ (ms ++ [o]) b28.ars.ar b28.ars.snd hr28 (Nat.le_refl _) (by have := b28.len.2; omega) (fun x hx => used_lt hwfR (b28.us x hx)) (fun i hi => rfl)) ?_
      rintro _ w29 ⟨rfl, hx29⟩
      repeat (first | refine sp ?_ | (refine is_load ?_; refine ld ?_) | (refine is_store ?_; refine sr ?_) | (refine is_alloc ?_; refine al ?_) | (refine is_box ?_; refine bx ?_) | (refine isl_load ?_; refine ldl ?_) | (refine isl_store ?_; refine srl ?_) | (refine isl_alloc ?_; refine all' ?_) | (refine isl_box ?_; refine bxl ?_))
      exact go_ret1 rfl rfl ⟨_, rfl, rfl, b28.ext.trans hx29⟩
    · have hat6 := hat5.fr hf6 (fun h => by have := hfp _ h; omega)
      have hd6 : DpAt w6 w3.heap.size _ A.dump := hd5.fr hf6 fun b h1 h2 h => by have := hfp b h; omega
      have hx06 : Ext w w6 := b5.ext.trans' hf6 fun b hb e => by have := b5.ars.lof b e; have := b5.lo0; omega
      have hlat := hat6.lt
      repeat (first | refine sp ?_ | (refine is_load ?_; refine ld ?_) | (refine is_store ?_; refine sr ?_) | (refine is_alloc ?_; refine al ?_) | (refine is_box ?_; refine bx ?_) | (refine isl_load ?_; refine ldl ?_) | (refine isl_store ?_; refine srl ?_) | (refine isl_alloc ?_; refine all' ?_) | (refine isl_box ?_; refine bxl ?_))
      refine go_call rfl rfl (p_Dump w6 lo p q B' g6.ar) ?_
      rintro _ w7 ⟨hd7, hx7⟩
      rw [r6.dumpE] at hd7
      obtain ⟨s3, c3, s4, c4, rfl, _, _⟩ := hd7.b
      have hat7 := hat6.ext hx7
      have hl67 := hx7.size
      repeat (first | refine sp ?_ | (refine is_load ?_; refine ld ?_) | (refine is_store ?_; refine sr ?_) | (refine is_alloc ?_; refine al ?_) | (refine is_box ?_; refine bx ?_) | (refine isl_load ?_; refine ldl ?_) | (refine isl_store ?_; refine srl ?_) | (refine isl_alloc ?_; refine all' ?_) | (refine isl_box ?_; refine bxl ?_))
      refine go_name (F := fun w8 => At w8 w7.heap.size [.slice s3 A.dump.slots.length c3, .slice s4 A.dump.free.length c4] 31 ∧ At w8 bd [.slice s1 A.dump.slots.length c1, .slice s2 A.dump.free.length c2] 31 ∧ Ext w7 w8) ⟨by (repeat (first | assumption | (refine At.new' (by (first | omega | (simp; done) | (simp; omega))) _ _) | apply At.alloc | apply At.drewN | apply At.setRow | (apply At.setRow_neF; first | assumption | (apply Ne.symm; assumption) | omega) | (apply At.extF; assumption))), by (repeat (first | assumption | (refine At.new' (by (first | omega | (simp; done) | (simp; omega))) _ _) | apply At.alloc | apply At.drewN | apply At.setRow | (apply At.setRow_neF; first | assumption | (apply Ne.symm; assumption) | omega) | (apply At.extF; assumption))), by (repeat (first | exact Fr.refl _ _ | assumption | apply Fr.drewN | apply Fr.alloc | (apply Fr.transF; assumption) | (refine Fr.setRow ?_ _ (by first | exact Or.inr (by (first | omega | (simp; done) | (simp; omega))) | (exact Or.inl (by first | assumption | (simp; done)))))))⟩ ?_
      rintro w8 ⟨hn8, ha8, hx8⟩
      have hdA := (hd6.ext hx7).ext hx8
      have hdN := hd7.ext hx8
      refine go_call rfl rfl (c_formed w8 _ _ A _ rt 2 sndA hdA hrl hk1) ?_
      rintro _ w9 ⟨⟨bb, rfl, hbb⟩, hx9⟩
      have hn9 := hn8.ext hx9
      have ha9 := ha8.ext hx9
      have hx69 := (hx7.trans hx8).trans hx9
      rcases hE with ⟨rfl, hnF⟩ | ⟨rfl, hF, hfl⟩
      · obtain rfl : bb = false := by
          cases bb with
          | false => rfl
          | true => exact absurd (hbb.1 rfl) hnF
        repeat (first | refine sp ?_ | (refine is_load ?_; refine ld ?_) | (refine is_store ?_; refine sr ?_) | (refine is_alloc ?_; refine al ?_) | (refine is_box ?_; refine bx ?_) | (refine isl_load ?_; refine ldl ?_) | (refine isl_store ?_; refine srl ?_) | (refine isl_alloc ?_; refine all' ?_) | (refine isl_box ?_; refine bxl ?_))
        refine go_call rfl rfl (c_SameDump w9 _ _ _ _ A.dump (hdA.ext hx9) (hdN.ext hx9) hdl hdl') ?_
        rintro _ w10 ⟨rfl, hx10⟩
        repeat (first | refine sp ?_ | (refine is_load ?_; refine ld ?_) | (refine is_store ?_; refine sr ?_) | (refine is_alloc ?_; refine al ?_) | (refine is_box ?_; refine bx ?_) | (refine isl_load ?_; refine ldl ?_) | (refine isl_store ?_; refine srl ?_) | (refine isl_alloc ?_; refine all' ?_) | (refine isl_box ?_; refine bxl ?_))
        exact go_ret1 rfl rfl ⟨_, rfl, rfl, (hx06.trans hx69).trans hx10⟩
      · obtain rfl : bb = true := hbb.2 hF
        have hfl : A.free < 3 := hfl
        repeat (first | refine sp ?_ | (refine is_load ?_; refine ld ?_) | (refine is_store ?_; refine sr ?_) | (refine is_alloc ?_; refine al ?_) | (refine is_box ?_; refine bx ?_) | (refine isl_load ?_; refine ldl ?_) | (refine isl_store ?_; refine srl ?_) | (refine isl_alloc ?_; refine all' ?_) | (refine isl_box ?_; refine bxl ?_))
        refine go_call rfl rfl (c_SameDump w9 _ _ _ _ A.dump (hdA.ext hx9) (hdN.ext hx9) hdl hdl') ?_
        rintro _ w10 ⟨rfl, hx10⟩
        repeat (first | refine sp ?_ | (refine is_load ?_; refine ld ?_) | (refine is_store ?_; refine sr ?_) | (refine is_alloc ?_; refine al ?_) | (refine is_box ?_; refine bx ?_) | (refine isl_load ?_; refine ldl ?_) | (refine isl_store ?_; refine srl ?_) | (refine isl_alloc ?_; refine all' ?_) | (refine isl_box ?_; refine bxl ?_))
        exact go_ret1 rfl rfl ⟨_, rfl, rfl, (hx06.trans hx69).trans hx10⟩

end Go.Proofs.Ytfaeboamjfdjlaa
