/-
  Single rotations of arbitrary nodes.
-/
import Derived.Test.YtklgmomhdlhajaaRi
import Derived.Test.YtklgmomhdlhajaaRf
import Derived.Test.YtklgmomhdlhajaaKe
import Derived.Test.YtklgmomhdlhajaaBu
import Derived.Test.YtklgmomhdlhajaaDm
set_option linter.unusedVariables false
namespace Go.Proofs.Ytklgmomhdlhajaa
open Go.Vc

set_option maxHeartbeats 8000000 in
theorem c_LawSingle (lv : Value) (l : List St4) (which : Int) (right : Bool) (spare : Int) (w : World) (h : Rd w 0 lv stC l) (hin : ∀ e ∈ l, InSt e) (hlen : l.length ≤ 9223372036854775807) (hwh : -9223372036854775808 ≤ which ∧ which ≤ 9223372036854775807) (hsp : 0 ≤ spare ∧ spare ≤ 255) :
    Calls Try.prog 9 [lv, .int .i64 which, .bool right, .int .u8 spare].toArray w (Ret fun v w' => v = .bool true ∧ Ext w w') := by
  obtain ⟨S, rfl⟩ := Int.eq_ofNat_of_zero_le hsp.1
  have hs5 : S % 5 < 5 := Nat.mod_lt _ (by omega)
  refine calls_go Try.func9 rfl Try.ntmps9 (Nat.le_of_ble_eq_true rfl) ?_
  repeat (first | refine sp ?_ | (refine is_load ?_; refine ld ?_) | (refine is_store ?_; refine sr ?_) | (refine is_alloc ?_; refine al ?_) | (refine is_box ?_; refine bx ?_) | (refine isl_load ?_; refine ldl ?_) | (refine isl_store ?_; refine srl ?_) | (refine isl_alloc ?_; refine all' ?_) | (refine isl_box ?_; refine bxl ?_))
  refine go_call rfl rfl (c_build12 w lv l (S % 5) h.up hlen hin (by omega)) ?_
  rintro _ w1 ⟨lo, p, q, A, ms, mv, rfl, b1, hfree, hm60⟩
  repeat (first | refine sp ?_ | (refine is_load ?_; refine ld ?_) | (refine is_store ?_; refine sr ?_) | (refine is_alloc ?_; refine al ?_) | (refine is_box ?_; refine bx ?_) | (refine isl_load ?_; refine ldl ?_) | (refine isl_store ?_; refine srl ?_) | (refine isl_alloc ?_; refine all' ?_) | (refine isl_box ?_; refine bxl ?_))
  refine go_call rfl rfl (c_awake12 w1) ?_
  rintro _ w3 ⟨rfl, hx3⟩
  have b3 := b1.step hx3
  have hm1 := b3.len.1
  obtain ⟨u, hu⟩ : ∃ u : Nat, which % (ms.length : Int) = u := ⟨(which % (ms.length : Int)).toNat, by have := Int.emod_nonneg which (show (ms.length : Int) ≠ 0 by omega); omega⟩
  have hul : u < ms.length := by have := Int.emod_lt_of_pos which (show (0 : Int) < ms.length by omega); omega
  obtain ⟨sv, cv, hmv, hcv, _⟩ := Own.slice b3.own
  subst hmv
  obtain ⟨mb, mo, esv, hc1, _⟩ := OwnN.at b3.own hul
  subst esv
  have hrt := b3.us _ (List.getElem_mem hul)
  generalize ms[u] = rt at *
  have hrl := used_lt b3.ars.ar.wf hrt
  cases right with
  | true =>
    have hk1 : (1 : Nat) < 4 := by omega
    repeat (first | refine sp ?_ | (refine is_load ?_; refine ld ?_) | (refine is_store ?_; refine sr ?_) | (refine is_alloc ?_; refine al ?_) | (refine is_box ?_; refine bx ?_) | (refine isl_load ?_; refine ldl ?_) | (refine isl_store ?_; refine srl ?_) | (refine isl_alloc ?_; refine all' ?_) | (refine isl_box ?_; refine bxl ?_))
    refine go_call rfl rfl (c_Mod which ms.length w3 hwh (by omega)) ?_
    rintro _ w3 ⟨rfl, rfl⟩
    rw [hu]
    repeat (first | refine sp ?_ | (refine is_load ?_; refine ld ?_) | (refine is_store ?_; refine sr ?_) | (refine is_alloc ?_; refine al ?_) | (refine is_box ?_; refine bx ?_) | (refine isl_load ?_; refine ldl ?_) | (refine isl_store ?_; refine srl ?_) | (refine isl_alloc ?_; refine all' ?_) | (refine isl_box ?_; refine bxl ?_))
    refine go_call rfl rfl (p_Dump w3 lo p q A b3.ars.ar) ?_
    rintro _ w4 ⟨hd4, hx4⟩
    obtain ⟨s1, c1, s2, c2, rfl, _, _⟩ := hd4.b
    repeat (first | refine sp ?_ | (refine is_load ?_; refine ld ?_) | (refine is_store ?_; refine sr ?_) | (refine is_alloc ?_; refine al ?_) | (refine is_box ?_; refine bx ?_) | (refine isl_load ?_; refine ldl ?_) | (refine isl_store ?_; refine srl ?_) | (refine isl_alloc ?_; refine all' ?_) | (refine isl_box ?_; refine bxl ?_))
    refine go_name (F := fun w5 => At w5 w4.heap.size [.slice s1 A.dump.slots.length c1, .slice s2 A.dump.free.length c2] 49 ∧ Ext w4 w5) ⟨by (repeat (first | assumption | (refine At.new' (by (first | omega | (simp; done) | (simp; omega))) _ _) | apply At.alloc | apply At.drewN | apply At.setRow | (apply At.setRow_neF; first | assumption | (apply Ne.symm; assumption) | omega) | (apply At.extF; assumption))), by (repeat (first | exact Fr.refl _ _ | assumption | apply Fr.drewN | apply Fr.alloc | (apply Fr.transF; assumption) | (refine Fr.setRow ?_ _ (by first | exact Or.inr (by (first | omega | (simp; done) | (simp; omega))) | (exact Or.inl (by first | assumption | (simp; done)))))))⟩ ?_
    rintro w5 ⟨hat5, hx5⟩
    have b5 := (b3.step hx4).step hx5
    have hd5 := hd4.ext hx5
    have hl3 : w3.heap.size ≤ w4.heap.size := hx4.size
    have hfp : ∀ b, q.fp b → b < w3.heap.size := b3.ars.ar.lt
    have hwf := b3.ars.ar.wf
    have hdl := (dump_len hwf).1
    have hdl' := (dump_len hwf).2
    have sndA := b3.ars.snd
    generalize hbd : w4.heap.size = bd at *
    refine go_call rfl rfl (c_call w5 lo p q A _ rt 1 b5.ars b5.hb hrl (by omega)) ?_
    rintro v6 w6 (⟨hF, h2f, q6, R, o, rfl, g6, kp6, hfr6, hG, hq6, hf6⟩ | ⟨E, B', rfl, hE, g6, r6, hf6⟩)
    · have hat6 := hat5.fr hf6 (fun h => by have := hfp _ h; omega)
      have hd6 : DpAt w6 w3.heap.size _ A.dump := hd5.fr hf6 fun b h1 h2 h => by have := hfp b h; omega
      have hx06 : Ext w w6 := b5.ext.trans' hf6 fun b hb e => by have := b5.ars.lof b e; have := b5.lo0; omega
      have hlat := hat6.lt
      have own6 : OwnN w6 w.heap.size (.slice (some ⟨mb, mo, none⟩) ms.length cv) ms := Own.of_heap b5.own fun b hb => hf6.block b (World.ownsRow.lt b5.own b hb).2 (b5.dis b hb)
      have hwfR := g6.ar.wf
      have hdl2 := (dump_len hwfR).1
      have h2f : 2 ≤ A.free := h2f
      have hfr6 : R.free + 2 = A.free := hfr6
      obtain ⟨hF1, hF2⟩ := id hF
      obtain ⟨j, n1, n2⟩ := hG
      repeat (first | refine sp ?_ | (refine is_load ?_; refine ld ?_) | (refine is_store ?_; refine sr ?_) | (refine is_alloc ?_; refine al ?_) | (refine is_box ?_; refine bx ?_) | (refine isl_load ?_; refine ldl ?_) | (refine isl_store ?_; refine srl ?_) | (refine isl_alloc ?_; refine all' ?_) | (refine isl_box ?_; refine bxl ?_))
      refine go_call rfl rfl (p_Dump w6 lo p q6 R g6.ar) ?_
      rintro _ w7 ⟨hd7, hx7⟩
      obtain ⟨s3, c3, s4, c4, rfl, _, _⟩ := hd7.b
      have hat7 := hat6.ext hx7
      have hl67 := hx7.size
      repeat (first | refine sp ?_ | (refine is_load ?_; refine ld ?_) | (refine is_store ?_; refine sr ?_) | (refine is_alloc ?_; refine al ?_) | (refine is_box ?_; refine bx ?_) | (refine isl_load ?_; refine ldl ?_) | (refine isl_store ?_; refine srl ?_) | (refine isl_alloc ?_; refine all' ?_) | (refine isl_box ?_; refine bxl ?_))
      refine go_name (F := fun w8 => At w8 w7.heap.size [.slice s3 R.dump.slots.length c3, .slice s4 R.dump.free.length c4] 49 ∧ At w8 bd [.slice s1 A.dump.slots.length c1, .slice s2 A.dump.free.length c2] 49 ∧ Ext w7 w8) ⟨by (repeat (first | assumption | (refine At.new' (by (first | omega | (simp; done) | (simp; omega))) _ _) | apply At.alloc | apply At.drewN | apply At.setRow | (apply At.setRow_neF; first | assumption | (apply Ne.symm; assumption) | omega) | (apply At.extF; assumption))), by (repeat (first | assumption | (refine At.new' (by (first | omega | (simp; done) | (simp; omega))) _ _) | apply At.alloc | apply At.drewN | apply At.setRow | (apply At.setRow_neF; first | assumption | (apply Ne.symm; assumption) | omega) | (apply At.extF; assumption))), by (repeat (first | exact Fr.refl _ _ | assumption | apply Fr.drewN | apply Fr.alloc | (apply Fr.transF; assumption) | (refine Fr.setRow ?_ _ (by first | exact Or.inr (by (first | omega | (simp; done) | (simp; omega))) | (exact Or.inl (by first | assumption | (simp; done)))))))⟩ ?_
      rintro w8 ⟨hn8, ha8, hx8⟩
      have hdA := (hd6.ext hx7).ext hx8
      have hdN := hd7.ext hx8
      generalize w7.heap.size = bn at *
      refine go_call rfl rfl (c_formed w8 _ _ A _ rt 1 sndA hdA hrl hk1) ?_
      rintro _ w9 ⟨⟨bb, rfl, hbb⟩, hx9⟩
      obtain rfl : bb = true := hbb.2 hF
      have hn9 := hn8.ext hx9
      have ha9 := ha8.ext hx9
      replace hdA := hdA.ext hx9
      replace hdN := hdN.ext hx9
      have hx69 := (hx7.trans hx8).trans hx9
      have hz9 : Ext w9 w9 := Fr.refl _ _
      obtain ⟨X, hX⟩ : ∃ X, A.node rt = X := ⟨_, rfl⟩
      have hkidX := sndA.kid rt hF1
      rw [hX] at n1 n2 hF2 hkidX
      obtain ⟨P, hP⟩ : ∃ P, A.node X.left = P := ⟨_, rfl⟩
      rw [hP] at n1 n2
      obtain ⟨Y, hY⟩ : ∃ Y, R.node o = Y := ⟨_, rfl⟩
      obtain ⟨Z, hZ⟩ : ∃ Z, R.node j = Z := ⟨_, rfl⟩
      have y1 := n1.key; have y2 := n1.val; have y3 := n1.left; have y4 := n1.right
      have z1 := n2.key; have z2 := n2.val; have z3 := n2.left; have z4 := n2.right
      rw [hY] at y1 y2 y3 y4
      rw [hZ] at z1 z2 z3 z4
      have yk : Y.left = P.left := y3
      have yj : Y.right = j := y4
      have hol := used_lt hwfR (Or.inr n1.use)
      have hjl := used_lt hwfR (Or.inr n2.use)
      have hXl := used_lt hwf (Or.inr hF2)
      repeat (first | refine sp ?_ | (refine is_load ?_; refine ld ?_) | (refine is_store ?_; refine sr ?_) | (refine is_alloc ?_; refine al ?_) | (refine is_box ?_; refine bx ?_) | (refine isl_load ?_; refine ldl ?_) | (refine isl_store ?_; refine srl ?_) | (refine isl_alloc ?_; refine all' ?_) | (refine isl_box ?_; refine bxl ?_))
      refine go_call rfl rfl (c_at12 w9 _ _ A.dump rt (hdA.ext hz9) hdl hrl) ?_
      rintro _ w10 ⟨rfl, hx10⟩
      rw [dump_nd hwf, nodeOf_us hF1, hX]
      have ha10 := ha9.ext hx10
      have hn10 := hn9.ext hx10
      have hsz10 := hx10.size
      have hlta10 := ha10.lt
      have hltn10 := hn10.lt
      unfold Nd.cells
      repeat (first | refine sp ?_ | (refine is_load ?_; refine ld ?_) | (refine is_store ?_; refine sr ?_) | (refine is_alloc ?_; refine al ?_) | (refine is_box ?_; refine bx ?_) | (refine isl_load ?_; refine ldl ?_) | (refine isl_store ?_; refine srl ?_) | (refine isl_alloc ?_; refine all' ?_) | (refine isl_box ?_; refine bxl ?_))
      refine go_name (F := fun w11 => At w11 bd [.slice s1 A.dump.slots.length c1, .slice s2 A.dump.free.length c2] 49 ∧ At w11 bn [.slice s3 R.dump.slots.length c3, .slice s4 R.dump.free.length c4] 49 ∧ At w11 w10.heap.size [.int .i64 X.key, .int .i64 X.val, .int .u32 (X.left : Int), .int .u32 (X.right : Int), .int .i64 X.size, .int .i64 X.sum, .int .i64 X.mn, .int .i64 X.mx] 64 ∧ Ext w10 w11) ⟨by (repeat (first | assumption | (refine At.new' (by (first | omega | (simp; done) | (simp; omega))) _ _) | apply At.alloc | apply At.drewN | apply At.setRow | (apply At.setRow_neF; first | assumption | (apply Ne.symm; assumption) | omega) | (apply At.extF; assumption))), by (repeat (first | assumption | (refine At.new' (by (first | omega | (simp; done) | (simp; omega))) _ _) | apply At.alloc | apply At.drewN | apply At.setRow | (apply At.setRow_neF; first | assumption | (apply Ne.symm; assumption) | omega) | (apply At.extF; assumption))), by (repeat (first | assumption | (refine At.new' (by (first | omega | (simp; done) | (simp; omega))) _ _) | apply At.alloc | apply At.drewN | apply At.setRow | (apply At.setRow_neF; first | assumption | (apply Ne.symm; assumption) | omega) | (apply At.extF; assumption))), by (repeat (first | exact Fr.refl _ _ | assumption | apply Fr.drewN | apply Fr.alloc | (apply Fr.transF; assumption) | (refine Fr.setRow ?_ _ (by first | exact Or.inr (by (first | omega | (simp; done) | (simp; omega))) | (exact Or.inl (by first | assumption | (simp; done)))))))⟩ ?_
      rintro w11 ⟨ha11, hn11, hqX11, hx11⟩
      have hz11 := (hz9.trans hx10).trans hx11
      have hl11 := hqX11.lt
      generalize w10.heap.size = bx at *
      repeat (first | refine sp ?_ | (refine is_load ?_; refine ld ?_) | (refine is_store ?_; refine sr ?_) | (refine is_alloc ?_; refine al ?_) | (refine is_box ?_; refine bx ?_) | (refine isl_load ?_; refine ldl ?_) | (refine isl_store ?_; refine srl ?_) | (refine isl_alloc ?_; refine all' ?_) | (refine isl_box ?_; refine bxl ?_))
      refine go_call rfl rfl (c_at12 w11 _ _ R.dump o (hdN.ext hz11) hdl2 hol) ?_
      rintro _ w12 ⟨rfl, hx12⟩
      rw [dump_nd hwfR, nodeOf_us n1.use, hY]
      have ha12 := ha11.ext hx12
      have hn12 := hn11.ext hx12
      have hqX12 := hqX11.ext hx12
      have hsz12 := hx12.size
      have hltX12 := hqX12.lt
      have hlta12 := ha12.lt
      have hltn12 := hn12.lt
      unfold Nd.cells
      repeat (first | refine sp ?_ | (refine is_load ?_; refine ld ?_) | (refine is_store ?_; refine sr ?_) | (refine is_alloc ?_; refine al ?_) | (refine is_box ?_; refine bx ?_) | (refine isl_load ?_; refine ldl ?_) | (refine isl_store ?_; refine srl ?_) | (refine isl_alloc ?_; refine all' ?_) | (refine isl_box ?_; refine bxl ?_))
      refine go_name (F := fun w13 => At w13 bd [.slice s1 A.dump.slots.length c1, .slice s2 A.dump.free.length c2] 49 ∧ At w13 bn [.slice s3 R.dump.slots.length c3, .slice s4 R.dump.free.length c4] 49 ∧ At w13 w12.heap.size [.int .i64 Y.key, .int .i64 Y.val, .int .u32 (Y.left : Int), .int .u32 (Y.right : Int), .int .i64 Y.size, .int .i64 Y.sum, .int .i64 Y.mn, .int .i64 Y.mx] 64 ∧ At w13 bx [.int .i64 X.key, .int .i64 X.val, .int .u32 (X.left : Int), .int .u32 (X.right : Int), .int .i64 X.size, .int .i64 X.sum, .int .i64 X.mn, .int .i64 X.mx] 64 ∧ Ext w12 w13) ⟨by (repeat (first | assumption | (refine At.new' (by (first | omega | (simp; done) | (simp; omega))) _ _) | apply At.alloc | apply At.drewN | apply At.setRow | (apply At.setRow_neF; first | assumption | (apply Ne.symm; assumption) | omega) | (apply At.extF; assumption))), by (repeat (first | assumption | (refine At.new' (by (first | omega | (simp; done) | (simp; omega))) _ _) | apply At.alloc | apply At.drewN | apply At.setRow | (apply At.setRow_neF; first | assumption | (apply Ne.symm; assumption) | omega) | (apply At.extF; assumption))), by (repeat (first | assumption | (refine At.new' (by (first | omega | (simp; done) | (simp; omega))) _ _) | apply At.alloc | apply At.drewN | apply At.setRow | (apply At.setRow_neF; first | assumption | (apply Ne.symm; assumption) | omega) | (apply At.extF; assumption))), by (repeat (first | assumption | (refine At.new' (by (first | omega | (simp; done) | (simp; omega))) _ _) | apply At.alloc | apply At.drewN | apply At.setRow | (apply At.setRow_neF; first | assumption | (apply Ne.symm; assumption) | omega) | (apply At.extF; assumption))), by (repeat (first | exact Fr.refl _ _ | assumption | apply Fr.drewN | apply Fr.alloc | (apply Fr.transF; assumption) | (refine Fr.setRow ?_ _ (by first | exact Or.inr (by (first | omega | (simp; done) | (simp; omega))) | (exact Or.inl (by first | assumption | (simp; done)))))))⟩ ?_
      rintro w13 ⟨ha13, hn13, hqY13, hqX13, hx13⟩
      have hz13 := (hz11.trans hx12).trans hx13
      have hl13 := hqY13.lt
      generalize w12.heap.size = by_ at *
      repeat (first | refine sp ?_ | (refine is_load ?_; refine ld ?_) | (refine is_store ?_; refine sr ?_) | (refine is_alloc ?_; refine al ?_) | (refine is_box ?_; refine bx ?_) | (refine isl_load ?_; refine ldl ?_) | (refine isl_store ?_; refine srl ?_) | (refine isl_alloc ?_; refine all' ?_) | (refine isl_box ?_; refine bxl ?_))
      refine go_call rfl rfl (c_at12 w13 _ _ A.dump X.left (hdA.ext hz13) hdl hXl) ?_
      rintro _ w14 ⟨rfl, hx14⟩
      rw [dump_nd hwf, nodeOf_us hF2, hP]
      have ha14 := ha13.ext hx14
      have hn14 := hn13.ext hx14
      have hqY14 := hqY13.ext hx14
      have hqX14 := hqX13.ext hx14
      have hsz14 := hx14.size
      have hltY14 := hqY14.lt
      have hltX14 := hqX14.lt
      have hlta14 := ha14.lt
      have hltn14 := hn14.lt
      unfold Nd.cells
      repeat (first | refine sp ?_ | (refine is_load ?_; refine ld ?_) | (refine is_store ?_; refine sr ?_) | (refine is_alloc ?_; refine al ?_) | (refine is_box ?_; refine bx ?_) | (refine isl_load ?_; refine ldl ?_) | (refine isl_store ?_; refine srl ?_) | (refine isl_alloc ?_; refine all' ?_) | (refine isl_box ?_; refine bxl ?_))
      refine go_name (F := fun w15 => At w15 bd [.slice s1 A.dump.slots.length c1, .slice s2 A.dump.free.length c2] 49 ∧ At w15 bn [.slice s3 R.dump.slots.length c3, .slice s4 R.dump.free.length c4] 49 ∧ At w15 w14.heap.size [.int .i64 P.key, .int .i64 P.val, .int .u32 (P.left : Int), .int .u32 (P.right : Int), .int .i64 P.size, .int .i64 P.sum, .int .i64 P.mn, .int .i64 P.mx] 64 ∧ At w15 by_ [.int .i64 Y.key, .int .i64 Y.val, .int .u32 (Y.left : Int), .int .u32 (Y.right : Int), .int .i64 Y.size, .int .i64 Y.sum, .int .i64 Y.mn, .int .i64 Y.mx] 64 ∧ At w15 bx [.int .i64 X.key, .int .i64 X.val, .int .u32 (X.left : Int), .int .u32 (X.right : Int), .int .i64 X.size, .int .i64 X.sum, .int .i64 X.mn, .int .i64 X.mx] 64 ∧ Ext w14 w15) ⟨by (repeat (first | assumption | (refine At.new' (by (first | omega | (simp; done) | (simp; omega))) _ _) | apply At.alloc | apply At.drewN | apply At.setRow | (apply At.setRow_neF; first | assumption | (apply Ne.symm; assumption) | omega) | (apply At.extF; assumption))), by (repeat (first | assumption | (refine At.new' (by (first | omega | (simp; done) | (simp; omega))) _ _) | apply At.alloc | apply At.drewN | apply At.setRow | (apply At.setRow_neF; first | assumption | (apply Ne.symm; assumption) | omega) | (apply At.extF; assumption))), by (repeat (first | assumption | (refine At.new' (by (first | omega | (simp; done) | (simp; omega))) _ _) | apply At.alloc | apply At.drewN | apply At.setRow | (apply At.setRow_neF; first | assumption | (apply Ne.symm; assumption) | omega) | (apply At.extF; assumption))), by (repeat (first | assumption | (refine At.new' (by (first | omega | (simp; done) | (simp; omega))) _ _) | apply At.alloc | apply At.drewN | apply At.setRow | (apply At.setRow_neF; first | assumption | (apply Ne.symm; assumption) | omega) | (apply At.extF; assumption))), by (repeat (first | assumption | (refine At.new' (by (first | omega | (simp; done) | (simp; omega))) _ _) | apply At.alloc | apply At.drewN | apply At.setRow | (apply At.setRow_neF; first | assumption | (apply Ne.symm; assumption) | omega) | (apply At.extF; assumption))), by (repeat (first | exact Fr.refl _ _ | assumption | apply Fr.drewN | apply Fr.alloc | (apply Fr.transF; assumption) | (refine Fr.setRow ?_ _ (by first | exact Or.inr (by (first | omega | (simp; done) | (simp; omega))) | (exact Or.inl (by first | assumption | (simp; done)))))))⟩ ?_
      rintro w15 ⟨ha15, hn15, hqP15, hqY15, hqX15, hx15⟩
      have hz15 := (hz13.trans hx14).trans hx15
      have hl15 := hqP15.lt
      generalize w14.heap.size = bp at *
      repeat (first | refine sp ?_ | (refine is_load ?_; refine ld ?_) | (refine is_store ?_; refine sr ?_) | (refine is_alloc ?_; refine al ?_) | (refine is_box ?_; refine bx ?_) | (refine isl_load ?_; refine ldl ?_) | (refine isl_store ?_; refine srl ?_) | (refine isl_alloc ?_; refine all' ?_) | (refine isl_box ?_; refine bxl ?_))
      refine go_call rfl rfl (c_at12 w15 _ _ R.dump Y.right (hdN.ext hz15) hdl2 (by rw [yj]; exact hjl)) ?_
      rintro _ w16 ⟨rfl, hx16⟩
      rw [dump_nd hwfR, yj, nodeOf_us n2.use, hZ]
      have ha16 := ha15.ext hx16
      have hn16 := hn15.ext hx16
      have hqP16 := hqP15.ext hx16
      have hqY16 := hqY15.ext hx16
      have hqX16 := hqX15.ext hx16
      have hsz16 := hx16.size
      have hltP16 := hqP16.lt
      have hltY16 := hqY16.lt
      have hltX16 := hqX16.lt
      have hlta16 := ha16.lt
      have hltn16 := hn16.lt
      unfold Nd.cells
      repeat (first | refine sp ?_ | (refine is_load ?_; refine ld ?_) | (refine is_store ?_; refine sr ?_) | (refine is_alloc ?_; refine al ?_) | (refine is_box ?_; refine bx ?_) | (refine isl_load ?_; refine ldl ?_) | (refine isl_store ?_; refine srl ?_) | (refine isl_alloc ?_; refine all' ?_) | (refine isl_box ?_; refine bxl ?_))
      refine go_name (F := fun w17 => At w17 bd [.slice s1 A.dump.slots.length c1, .slice s2 A.dump.free.length c2] 49 ∧ At w17 bn [.slice s3 R.dump.slots.length c3, .slice s4 R.dump.free.length c4] 49 ∧ At w17 w16.heap.size [.int .i64 Z.key, .int .i64 Z.val, .int .u32 (Z.left : Int), .int .u32 (Z.right : Int), .int .i64 Z.size, .int .i64 Z.sum, .int .i64 Z.mn, .int .i64 Z.mx] 64 ∧ At w17 bp [.int .i64 P.key, .int .i64 P.val, .int .u32 (P.left : Int), .int .u32 (P.right : Int), .int .i64 P.size, .int .i64 P.sum, .int .i64 P.mn, .int .i64 P.mx] 64 ∧ At w17 by_ [.int .i64 Y.key, .int .i64 Y.val, .int .u32 (Y.left : Int), .int .u32 (Y.right : Int), .int .i64 Y.size, .int .i64 Y.sum, .int .i64 Y.mn, .int .i64 Y.mx] 64 ∧ At w17 bx [.int .i64 X.key, .int .i64 X.val, .int .u32 (X.left : Int), .int .u32 (X.right : Int), .int .i64 X.size, .int .i64 X.sum, .int .i64 X.mn, .int .i64 X.mx] 64 ∧ Ext w16 w17) ⟨by (repeat (first | assumption | (refine At.new' (by (first | omega | (simp; done) | (simp; omega))) _ _) | apply At.alloc | apply At.drewN | apply At.setRow | (apply At.setRow_neF; first | assumption | (apply Ne.symm; assumption) | omega) | (apply At.extF; assumption))), by (repeat (first | assumption | (refine At.new' (by (first | omega | (simp; done) | (simp; omega))) _ _) | apply At.alloc | apply At.drewN | apply At.setRow | (apply At.setRow_neF; first | assumption | (apply Ne.symm; assumption) | omega) | (apply At.extF; assumption))), by (repeat (first | assumption | (refine At.new' (by (first | omega | (simp; done) | (simp; omega))) _ _) | apply At.alloc | apply At.drewN | apply At.setRow | (apply At.setRow_neF; first | assumption | (apply Ne.symm; assumption) | omega) | (apply At.extF; assumption))), by (repeat (first | assumption | (refine At.new' (by (first | omega | (simp; done) | (simp; omega))) _ _) | apply At.alloc | apply At.drewN | apply At.setRow | (apply At.setRow_neF; first | assumption | (apply Ne.symm; assumption) | omega) | (apply At.extF; assumption))), by (repeat (first | assumption | (refine At.new' (by (first | omega | (simp; done) | (simp; omega))) _ _) | apply At.alloc | apply At.drewN | apply At.setRow | (apply At.setRow_neF; first | assumption | (apply Ne.symm; assumption) | omega) | (apply At.extF; assumption))), by (repeat (first | assumption | (refine At.new' (by (first | omega | (simp; done) | (simp; omega))) _ _) | apply At.alloc | apply At.drewN | apply At.setRow | (apply At.setRow_neF; first | assumption | (apply Ne.symm; assumption) | omega) | (apply At.extF; assumption))), by (repeat (first | exact Fr.refl _ _ | assumption | apply Fr.drewN | apply Fr.alloc | (apply Fr.transF; assumption) | (refine Fr.setRow ?_ _ (by first | exact Or.inr (by (first | omega | (simp; done) | (simp; omega))) | (exact Or.inl (by first | assumption | (simp; done)))))))⟩ ?_
      rintro w17 ⟨ha17, hn17, hqZ17, hqP17, hqY17, hqX17, hx17⟩
      have hz17 := (hz15.trans hx16).trans hx17
      have hl17 := hqZ17.lt
      generalize w16.heap.size = bz at *
      repeat (first | refine sp ?_ | (refine is_load ?_; refine ld ?_) | (refine is_store ?_; refine sr ?_) | (refine is_alloc ?_; refine al ?_) | (refine is_box ?_; refine bx ?_) | (refine isl_load ?_; refine ldl ?_) | (refine isl_store ?_; refine srl ?_) | (refine isl_alloc ?_; refine all' ?_) | (refine isl_box ?_; refine bxl ?_))
      refine go_call rfl rfl (c_is w17 Y P P.left Y.right y1 y2 yk rfl) ?_
      rintro _ w18 ⟨rfl, hx18⟩
      have ha18 := ha17.ext hx18
      have hn18 := hn17.ext hx18
      have hqX18 := hqX17.ext hx18
      have hqY18 := hqY17.ext hx18
      have hqP18 := hqP17.ext hx18
      have hqZ18 := hqZ17.ext hx18
      have hz18 := hz17.trans hx18
      repeat (first | refine sp ?_ | (refine is_load ?_; refine ld ?_) | (refine is_store ?_; refine sr ?_) | (refine is_alloc ?_; refine al ?_) | (refine is_box ?_; refine bx ?_) | (refine isl_load ?_; refine ldl ?_) | (refine isl_store ?_; refine srl ?_) | (refine isl_alloc ?_; refine all' ?_) | (refine isl_box ?_; refine bxl ?_))
      refine go_call rfl rfl (c_is w18 Z X P.right X.right z1 z2 z3 z4) ?_
      rintro _ w19 ⟨rfl, hx19⟩
      have ha19 := ha18.ext hx19
      have hn19 := hn18.ext hx19
      have hqX19 := hqX18.ext hx19
      have hqY19 := hqY18.ext hx19
      have hqP19 := hqP18.ext hx19
      have hqZ19 := hqZ18.ext hx19
      have hz19 := hz18.trans hx19
      repeat (first | refine sp ?_ | (refine is_load ?_; refine ld ?_) | (refine is_store ?_; refine sr ?_) | (refine is_alloc ?_; refine al ?_) | (refine is_box ?_; refine bx ?_) | (refine isl_load ?_; refine ldl ?_) | (refine isl_store ?_; refine srl ?_) | (refine isl_alloc ?_; refine all' ?_) | (refine isl_box ?_; refine bxl ?_))
      refine go_call rfl rfl (c_fresh w19 _ _ _ _ A.dump R.dump Y.right (hdA.ext hz19) (hdN.ext hz19) hdl hdl2 (by rw [yj]; exact hjl) (by rw [dump_al hwf, yj]; exact n2.new) (by rw [dump_al hwfR, yj]; exact n2.use)) ?_
      rintro _ w20 ⟨rfl, hx20⟩
      have ha20 := ha19.ext hx20
      have hn20 := hn19.ext hx20
      have hqX20 := hqX19.ext hx20
      have hqY20 := hqY19.ext hx20
      have hqP20 := hqP19.ext hx20
      have hqZ20 := hqZ19.ext hx20
      have hz20 := hz19.trans hx20
      repeat (first | refine sp ?_ | (refine is_load ?_; refine ld ?_) | (refine is_store ?_; refine sr ?_) | (refine is_alloc ?_; refine al ?_) | (refine is_box ?_; refine bx ?_) | (refine isl_load ?_; refine ldl ?_) | (refine isl_store ?_; refine srl ?_) | (refine isl_alloc ?_; refine all' ?_) | (refine isl_box ?_; refine bxl ?_))
      refine go_call rfl rfl (c_fresh w20 _ _ _ _ A.dump R.dump o (hdA.ext hz20) (hdN.ext hz20) hdl hdl2 hol (by rw [dump_al hwf]; exact n1.new) (by rw [dump_al hwfR]; exact n1.use)) ?_
      rintro _ w21 ⟨rfl, hx21⟩
      have ha21 := ha20.ext hx21
      have hn21 := hn20.ext hx21
      have hqX21 := hqX20.ext hx21
      have hqY21 := hqY20.ext hx21
      have hqP21 := hqP20.ext hx21
      have hqZ21 := hqZ20.ext hx21
      have hz21 := hz20.trans hx21
      repeat (first | refine sp ?_ | (refine is_load ?_; refine ld ?_) | (refine is_store ?_; refine sr ?_) | (refine is_alloc ?_; refine al ?_) | (refine is_box ?_; refine bx ?_) | (refine isl_load ?_; refine ldl ?_) | (refine isl_store ?_; refine srl ?_) | (refine isl_alloc ?_; refine all' ?_) | (refine isl_box ?_; refine bxl ?_))
      have g21 := g6.ext (hx69.trans hz21)
      refine go_call rfl rfl (p_Free w21 lo p q6 R g21.ar) ?_
      rintro _ w22 ⟨rfl, hx22⟩
      have ha22 := ha21.ext hx22
      have hn22 := hn21.ext hx22
      have hqX22 := hqX21.ext hx22
      have hqY22 := hqY21.ext hx22
      have hqP22 := hqP21.ext hx22
      have hqZ22 := hqZ21.ext hx22
      have hz22 := hz21.trans hx22
      repeat (first | refine sp ?_ | (refine is_load ?_; refine ld ?_) | (refine is_store ?_; refine sr ?_) | (refine is_alloc ?_; refine al ?_) | (refine is_box ?_; refine bx ?_) | (refine isl_load ?_; refine ldl ?_) | (refine isl_store ?_; refine srl ?_) | (refine isl_alloc ?_; refine all' ?_) | (refine isl_box ?_; refine bxl ?_))
      refine go_call rfl rfl (c_Kept w22 _ _ _ _ A.dump R.dump (hdA.ext hz22) (hdN.ext hz22) (kp6.kept hwf) hdl) ?_
      rintro _ w23 ⟨rfl, hx23⟩
      have hz23 := hz22.trans hx23
      have hx623 := hx69.trans hz23
      have own23 := Own.ext own6 hx623
      have g23 := g6.ext hx623
      repeat (first | refine sp ?_ | (refine is_load ?_; refine ld ?_) | (refine is_store ?_; refine sr ?_) | (refine is_alloc ?_; refine al ?_) | (refine is_box ?_; refine bx ?_) | (refine isl_load ?_; refine ldl ?_) | (refine isl_store ?_; refine srl ?_) | (refine isl_alloc ?_; refine all' ?_) | (refine isl_box ?_; refine bxl ?_))
      refine go_litG (l := [.int .u32 (o : Int)]) rfl rfl (by decide) (by decide) rfl ?_
      have hx24 : Ext w23 (w23.alloc (.cells [Value.int .u32 (o : Int)].toArray 32)) := by (repeat (first | exact Fr.refl _ _ | assumption | apply Fr.drewN | apply Fr.alloc | (apply Fr.transF; assumption) | (refine Fr.setRow ?_ _ (by first | exact Or.inr (by (first | omega | (simp; done) | (simp; omega))) | (exact Or.inl (by first | assumption | (simp; done)))))))
      have hat24 := At.new w23 [Value.int .u32 (o : Int)] 32
      have own24 := Own.ext own23 hx24
      have g24 := g23.ext hx24
      have hx624 := hx623.trans hx24
      have hsw := (hx06.trans hx624).size
      generalize w23.alloc (.cells [Value.int .u32 (o : Int)].toArray 32) = w24 at *
      generalize w23.heap.size = nb at *
      repeat (first | refine sp ?_ | (refine is_load ?_; refine ld ?_) | (refine is_store ?_; refine sr ?_) | (refine is_alloc ?_; refine al ?_) | (refine is_box ?_; refine bx ?_) | (refine isl_load ?_; refine ldl ?_) | (refine isl_store ?_; refine srl ?_) | (refine isl_alloc ?_; refine all' ?_) | (refine isl_box ?_; refine bxl ?_))
      refine go_appendG (r := 1) (c := 1) (sa := some ⟨nb, 0, none⟩) (news := [.int .u32 (o : Int)]) (by decide) rfl rfl rfl own24 (by
        intro j u hj
        exact ⟨_, _, rfl, by have := hat24.cell (i := j) (v := u) hj; simpa using this⟩) rfl (by intro u hu; simp at hu; subst hu; rfl) (by simp [maxLen]; omega) (by omega) hsw ?_
      intro v25 w25 ho25 hg25 hbk25
      have ho25' : OwnN w25 w.heap.size v25 (ms ++ [o]) := by
        unfold OwnN
        rw [List.map_append, List.length_append]
        exact ho25
      have b25 := b5.push g24 kp6 (Or.inr n1.use) hq6 (hf6.trans (hx624.mono fun _ e => e.elim)) (by omega) ho25' hg25 (fun b hb => (hbk25 b hb).imp id fun e => by omega)
      have hr25 : RdU w25 w25.heap.size v25 u32c (ms ++ [o]) := by
        have h1 := ho25'
        unfold OwnN at h1
        rw [← flatMap_one] at h1
        exact (Own.rd (enc := u32c) h1 rfl).up
      obtain ⟨sv25, cv25, rfl, _, _⟩ := Own.slice ho25'
      repeat (first | refine sp ?_ | (refine is_load ?_; refine ld ?_) | (refine is_store ?_; refine sr ?_) | (refine is_alloc ?_; refine al ?_) | (refine is_box ?_; refine bx ?_) | (refine isl_load ?_; refine ldl ?_) | (refine isl_store ?_; refine srl ?_) | (refine isl_alloc ?_; refine all' ?_) | (refine isl_box ?_; refine bxl ?_))
      refine go_call rfl rfl (c_KSound w25 lo p _ q6 _ R _ (ms ++ [o]) b25.ars.ar b25.ars.snd hr25 (Nat.le_refl _) (by have := b25.len.2; omega) (fun x hx => used_lt hwfR (b25.us x hx)) (fun i hi => rfl)) ?_
      rintro _ w26 ⟨rfl, hx26⟩
      repeat (first | refine sp ?_ | (refine is_load ?_; refine ld ?_) | (refine is_store ?_; refine sr ?_) | (refine is_alloc ?_; refine al ?_) | (refine is_box ?_; refine bx ?_) | (refine isl_load ?_; refine ldl ?_) | (refine isl_store ?_; refine srl ?_) | (refine isl_alloc ?_; refine all' ?_) | (refine isl_box ?_; refine bxl ?_))
      exact go_ret1 rfl rfl ⟨_, rfl, rfl, b25.ext.trans hx26⟩
    · have hat6 := hat5.fr hf6 (fun h => by have := hfp _ h; omega)
      have hd6 : DpAt w6 w3.heap.size _ A.dump := hd5.fr hf6 fun b h1 h2 h => by have := hfp b h; omega
      have hx06 : Ext w w6 := b5.ext.trans' hf6 fun b hb e => by have := b5.ars.lof b e; have := b5.lo0; omega
      have hlat := hat6.lt
      repeat (first | refine sp ?_ | (refine is_load ?_; refine ld ?_) | (refine is_store ?_; refine sr ?_) | (refine is_alloc ?_; refine al ?_) | (refine is_box ?_; refine bx ?_) | (refine isl_load ?_; refine ldl ?_) | (refine isl_store ?_; refine srl ?_) | (refine isl_alloc ?_; refine all' ?_) | (refine isl_box ?_; refine bxl ?_))
      refine go_call rfl rfl (p_Dump w6 lo p q B' g6.ar) ?_
      rintro _ w7 ⟨hd7, hx7⟩
      rw [r6.dumpE] at hd7
      obtain ⟨s3, c3, s4, c4, rfl, _, _⟩ := hd7.b
      have hat7 := hat6.ext hx7
      have hl67 := hx7.size
      repeat (first | refine sp ?_ | (refine is_load ?_; refine ld ?_) | (refine is_store ?_; refine sr ?_) | (refine is_alloc ?_; refine al ?_) | (refine is_box ?_; refine bx ?_) | (refine isl_load ?_; refine ldl ?_) | (refine isl_store ?_; refine srl ?_) | (refine isl_alloc ?_; refine all' ?_) | (refine isl_box ?_; refine bxl ?_))
      refine go_name (F := fun w8 => At w8 w7.heap.size [.slice s3 A.dump.slots.length c3, .slice s4 A.dump.free.length c4] 49 ∧ At w8 bd [.slice s1 A.dump.slots.length c1, .slice s2 A.dump.free.length c2] 49 ∧ Ext w7 w8) ⟨by (repeat (first | assumption | (refine At.new' (by (first | omega | (simp; done) | (simp; omega))) _ _) | apply At.alloc | apply At.drewN | apply At.setRow | (apply At.setRow_neF; first | assumption | (apply Ne.symm; assumption) | omega) | (apply At.extF; assumption))), by (repeat (first | assumption | (refine At.new' (by (first | omega | (simp; done) | (simp; omega))) _ _) | apply At.alloc | apply At.drewN | apply At.setRow | (apply At.setRow_neF; first | assumption | (apply Ne.symm; assumption) | omega) | (apply At.extF; assumption))), by (repeat (first | exact Fr.refl _ _ | assumption | apply Fr.drewN | apply Fr.alloc | (apply Fr.transF; assumption) | (refine Fr.setRow ?_ _ (by first | exact Or.inr (by (first | omega | (simp; done) | (simp; omega))) | (exact Or.inl (by first | assumption | (simp; done)))))))⟩ ?_
      rintro w8 ⟨hn8, ha8, hx8⟩
      have hdA := (hd6.ext hx7).ext hx8
      have hdN := hd7.ext hx8
      refine go_call rfl rfl (c_formed w8 _ _ A _ rt 1 sndA hdA hrl hk1) ?_
      rintro _ w9 ⟨⟨bb, rfl, hbb⟩, hx9⟩
      have hn9 := hn8.ext hx9
      have ha9 := ha8.ext hx9
      have hx69 := (hx7.trans hx8).trans hx9
      rcases hE with ⟨rfl, hnF⟩ | ⟨rfl, hF, hfl⟩
      · obtain rfl : bb = false := by
          cases bb with
          | false => rfl
          | true => exact absurd (hbb.1 rfl) hnF
        repeat (first | refine sp ?_ | (refine is_load ?_; refine ld ?_) | (refine is_store ?_; refine sr ?_) | (refine is_alloc ?_; refine al ?_) | (refine is_box ?_; refine bx ?_) | (refine isl_load ?_; refine ldl ?_) | (refine isl_store ?_; refine srl ?_) | (refine isl_alloc ?_; refine all' ?_) | (refine isl_box ?_; refine bxl ?_))
        refine go_call rfl rfl (c_SameDump w9 _ _ _ _ A.dump (hdA.ext hx9) (hdN.ext hx9) hdl hdl') ?_
        rintro _ w10 ⟨rfl, hx10⟩
        repeat (first | refine sp ?_ | (refine is_load ?_; refine ld ?_) | (refine is_store ?_; refine sr ?_) | (refine is_alloc ?_; refine al ?_) | (refine is_box ?_; refine bx ?_) | (refine isl_load ?_; refine ldl ?_) | (refine isl_store ?_; refine srl ?_) | (refine isl_alloc ?_; refine all' ?_) | (refine isl_box ?_; refine bxl ?_))
        exact go_ret1 rfl rfl ⟨_, rfl, rfl, (hx06.trans hx69).trans hx10⟩
      · obtain rfl : bb = true := hbb.2 hF
        have hfl : A.free < 2 := hfl
        repeat (first | refine sp ?_ | (refine is_load ?_; refine ld ?_) | (refine is_store ?_; refine sr ?_) | (refine is_alloc ?_; refine al ?_) | (refine is_box ?_; refine bx ?_) | (refine isl_load ?_; refine ldl ?_) | (refine isl_store ?_; refine srl ?_) | (refine isl_alloc ?_; refine all' ?_) | (refine isl_box ?_; refine bxl ?_))
        refine go_call rfl rfl (c_SameDump w9 _ _ _ _ A.dump (hdA.ext hx9) (hdN.ext hx9) hdl hdl') ?_
        rintro _ w10 ⟨rfl, hx10⟩
        repeat (first | refine sp ?_ | (refine is_load ?_; refine ld ?_) | (refine is_store ?_; refine sr ?_) | (refine is_alloc ?_; refine al ?_) | (refine is_box ?_; refine bx ?_) | (refine isl_load ?_; refine ldl ?_) | (refine isl_store ?_; refine srl ?_) | (refine isl_alloc ?_; refine all' ?_) | (refine isl_box ?_; refine bxl ?_))
        exact go_ret1 rfl rfl ⟨_, rfl, rfl, (hx06.trans hx69).trans hx10⟩
  | false =>
    have hk1 : (0 : Nat) < 4 := by omega
    repeat (first | refine sp ?_ | (refine is_load ?_; refine ld ?_) | (refine is_store ?_; refine sr ?_) | (refine is_alloc ?_; refine al ?_) | (refine is_box ?_; refine bx ?_) | (refine isl_load ?_; refine ldl ?_) | (refine isl_store ?_; refine srl ?_) | (refine isl_alloc ?_; refine all' ?_) | (refine isl_box ?_; refine bxl ?_))
    refine go_call rfl rfl (c_Mod which ms.length w3 hwh (by omega)) ?_
    rintro _ w3 ⟨rfl, rfl⟩
    rw [hu]
    repeat (first | refine sp ?_ | (refine is_load ?_; refine ld ?_) | (refine is_store ?_; refine sr ?_) | (refine is_alloc ?_; refine al ?_) | (refine is_box ?_; refine bx ?_) | (refine isl_load ?_; refine ldl ?_) | (refine isl_store ?_; refine srl ?_) | (refine isl_alloc ?_; refine all' ?_) | (refine isl_box ?_; refine bxl ?_))
    refine go_call rfl rfl (p_Dump w3 lo p q A b3.ars.ar) ?_
    rintro _ w4 ⟨hd4, hx4⟩
    obtain ⟨s1, c1, s2, c2, rfl, _, _⟩ := hd4.b
    repeat (first | refine sp ?_ | (refine is_load ?_; refine ld ?_) | (refine is_store ?_; refine sr ?_) | (refine is_alloc ?_; refine al ?_) | (refine is_box ?_; refine bx ?_) | (refine isl_load ?_; refine ldl ?_) | (refine isl_store ?_; refine srl ?_) | (refine isl_alloc ?_; refine all' ?_) | (refine isl_box ?_; refine bxl ?_))
    refine go_name (F := fun w5 => At w5 w4.heap.size [.slice s1 A.dump.slots.length c1, .slice s2 A.dump.free.length c2] 49 ∧ Ext w4 w5) ⟨by (repeat (first | assumption | (refine At.new' (by (first | omega | (simp; done) | (simp; omega))) _ _) | apply At.alloc | apply At.drewN | apply At.setRow | (apply At.setRow_neF; first | assumption | (apply Ne.symm; assumption) | omega) | (apply At.extF; assumption))), by (repeat (first | exact Fr.refl _ _ | assumption | apply Fr.drewN | apply Fr.alloc | (apply Fr.transF; assumption) | (refine Fr.setRow ?_ _ (by first | exact Or.inr (by (first | omega | (simp; done) | (simp; omega))) | (exact Or.inl (by first | assumption | (simp; done)))))))⟩ ?_
    rintro w5 ⟨hat5, hx5⟩
    have b5 := (b3.step hx4).step hx5
    have hd5 := hd4.ext hx5
    have hl3 : w3.heap.size ≤ w4.heap.size := hx4.size
    have hfp : ∀ b, q.fp b → b < w3.heap.size := b3.ars.ar.lt
    have hwf := b3.ars.ar.wf
    have hdl := (dump_len hwf).1
    have hdl' := (dump_len hwf).2
    have sndA := b3.ars.snd
    generalize hbd : w4.heap.size = bd at *
    refine go_call rfl rfl (c_call w5 lo p q A _ rt 0 b5.ars b5.hb hrl (by omega)) ?_
    rintro v6 w6 (⟨hF, h2f, q6, R, o, rfl, g6, kp6, hfr6, hG, hq6, hf6⟩ | ⟨E, B', rfl, hE, g6, r6, hf6⟩)
    · have hat6 := hat5.fr hf6 (fun h => by have := hfp _ h; omega)
      have hd6 : DpAt w6 w3.heap.size _ A.dump := hd5.fr hf6 fun b h1 h2 h => by have := hfp b h; omega
      have hx06 : Ext w w6 := b5.ext.trans' hf6 fun b hb e => by have := b5.ars.lof b e; have := b5.lo0; omega
      have hlat := hat6.lt
      have own6 : OwnN w6 w.heap.size (.slice (some ⟨mb, mo, none⟩) ms.length cv) ms := Own.of_heap b5.own fun b hb => hf6.block b (World.ownsRow.lt b5.own b hb).2 (b5.dis b hb)
      have hwfR := g6.ar.wf
      have hdl2 := (dump_len hwfR).1
      have h2f : 2 ≤ A.free := h2f
      have hfr6 : R.free + 2 = A.free := hfr6
      obtain ⟨hF1, hF2⟩ := id hF
      obtain ⟨j, n1, n2⟩ := hG
      repeat (first | refine sp ?_ | (refine is_load ?_; refine ld ?_) | (refine is_store ?_; refine sr ?_) | (refine is_alloc ?_; refine al ?_) | (refine is_box ?_; refine bx ?_) | (refine isl_load ?_; refine ldl ?_) | (refine isl_store ?_; refine srl ?_) | (refine isl_alloc ?_; refine all' ?_) | (refine isl_box ?_; refine bxl ?_))
      refine go_call rfl rfl (p_Dump w6 lo p q6 R g6.ar) ?_
      rintro _ w7 ⟨hd7, hx7⟩
      obtain ⟨s3, c3, s4, c4, rfl, _, _⟩ := hd7.b
      have hat7 := hat6.ext hx7
      have hl67 := hx7.size
      repeat (first | refine sp ?_ | (refine is_load ?_; refine ld ?_) | (refine is_store ?_; refine sr ?_) | (refine is_alloc ?_; refine al ?_) | (refine is_box ?_; refine bx ?_) | (refine isl_load ?_; refine ldl ?_) | (refine isl_store ?_; refine srl ?_) | (refine isl_alloc ?_; refine all' ?_) | (refine isl_box ?_; refine bxl ?_))
      refine go_name (F := fun w8 => At w8 w7.heap.size [.slice s3 R.dump.slots.length c3, .slice s4 R.dump.free.length c4] 49 ∧ At w8 bd [.slice s1 A.dump.slots.length c1, .slice s2 A.dump.free.length c2] 49 ∧ Ext w7 w8) ⟨by (repeat (first | assumption | (refine At.new' (by (first | omega | (simp; done) | (simp; omega))) _ _) | apply At.alloc | apply At.drewN | apply At.setRow | (apply At.setRow_neF; first | assumption | (apply Ne.symm; assumption) | omega) | (apply At.extF; assumption))), by (repeat (first | assumption | (refine At.new' (by (first | omega | (simp; done) | (simp; omega))) _ _) | apply At.alloc | apply At.drewN | apply At.setRow | (apply At.setRow_neF; first | assumption | (apply Ne.symm; assumption) | omega) | (apply At.extF; assumption))), by (repeat (first | exact Fr.refl _ _ | assumption | apply Fr.drewN | apply Fr.alloc | (apply Fr.transF; assumption) | (refine Fr.setRow ?_ _ (by first | exact Or.inr (by (first | omega | (simp; done) | (simp; omega))) | (exact Or.inl (by first | assumption | (simp; done)))))))⟩ ?_
      rintro w8 ⟨hn8, ha8, hx8⟩
      have hdA := (hd6.ext hx7).ext hx8
      have hdN := hd7.ext hx8
      generalize w7.heap.size = bn at *
      refine go_call rfl rfl (c_formed w8 _ _ A _ rt 0 sndA hdA hrl hk1) ?_
      rintro _ w9 ⟨⟨bb, rfl, hbb⟩, hx9⟩
      obtain rfl : bb = true := hbb.2 hF
      have hn9 := hn8.ext hx9
      have ha9 := ha8.ext hx9
      replace hdA := hdA.ext hx9
      replace hdN := hdN.ext hx9
      have hx69 := (hx7.trans hx8).trans hx9
      have hz9 : Ext w9 w9 := Fr.refl _ _
      obtain ⟨X, hX⟩ : ∃ X, A.node rt = X := ⟨_, rfl⟩
      have hkidX := sndA.kid rt hF1
      rw [hX] at n1 n2 hF2 hkidX
      obtain ⟨P, hP⟩ : ∃ P, A.node X.right = P := ⟨_, rfl⟩
      rw [hP] at n1 n2
      obtain ⟨Y, hY⟩ : ∃ Y, R.node o = Y := ⟨_, rfl⟩
      obtain ⟨Z, hZ⟩ : ∃ Z, R.node j = Z := ⟨_, rfl⟩
      have y1 := n1.key; have y2 := n1.val; have y3 := n1.left; have y4 := n1.right
      have z1 := n2.key; have z2 := n2.val; have z3 := n2.left; have z4 := n2.right
      rw [hY] at y1 y2 y3 y4
      rw [hZ] at z1 z2 z3 z4
      have yk : Y.right = P.right := y4
      have yj : Y.left = j := y3
      have hol := used_lt hwfR (Or.inr n1.use)
      have hjl := used_lt hwfR (Or.inr n2.use)
      have hXl := used_lt hwf (Or.inr hF2)
      repeat (first | refine sp ?_ | (refine is_load ?_; refine ld ?_) | (refine is_store ?_; refine sr ?_) | (refine is_alloc ?_; refine al ?_) | (refine is_box ?_; refine bx ?_) | (refine isl_load ?_; refine ldl ?_) | (refine isl_store ?_; refine srl ?_) | (refine isl_alloc ?_; refine all' ?_) | (refine isl_box ?_; refine bxl ?_))
      refine go_call rfl rfl (c_at12 w9 _ _ A.dump rt (hdA.ext hz9) hdl hrl) ?_
      rintro _ w10 ⟨rfl, hx10⟩
      rw [dump_nd hwf, nodeOf_us hF1, hX]
      have ha10 := ha9.ext hx10
      have hn10 := hn9.ext hx10
      have hsz10 := hx10.size
      have hlta10 := ha10.lt
      have hltn10 := hn10.lt
      unfold Nd.cells
      repeat (first | refine sp ?_ | (refine is_load ?_; refine ld ?_) | (refine is_store ?_; refine sr ?_) | (refine is_alloc ?_; refine al ?_) | (refine is_box ?_; refine bx ?_) | (refine isl_load ?_; refine ldl ?_) | (refine isl_store ?_; refine srl ?_) | (refine isl_alloc ?_; refine all' ?_) | (refine isl_box ?_; refine bxl ?_))
      refine go_name (F := fun w11 => At w11 bd [.slice s1 A.dump.slots.length c1, .slice s2 A.dump.free.length c2] 49 ∧ At w11 bn [.slice s3 R.dump.slots.length c3, .slice s4 R.dump.free.length c4] 49 ∧ At w11 w10.heap.size [.int .i64 X.key, .int .i64 X.val, .int .u32 (X.left : Int), .int .u32 (X.right : Int), .int .i64 X.size, .int .i64 X.sum, .int .i64 X.mn, .int .i64 X.mx] 64 ∧ Ext w10 w11) ⟨by (repeat (first | assumption | (refine At.new' (by (first | omega | (simp; done) | (simp; omega))) _ _) | apply At.alloc | apply At.drewN | apply At.setRow | (apply At.setRow_neF; first | assumption | (apply Ne.symm; assumption) | omega) | (apply At.extF; assumption))), by (repeat (first | assumption | (refine At.new' (by (first | omega | (simp; done) | (simp; omega))) _ _) | apply At.alloc | apply At.drewN | apply At.setRow | (apply At.setRow_neF; first | assumption | (apply Ne.symm; assumption) | omega) | (apply At.extF; assumption))), by (repeat (first | assumption | (refine At.new' (by (first | omega | (simp; done) | (simp; omega))) _ _) | apply At.alloc | apply At.drewN | apply At.setRow | (apply At.setRow_neF; first | assumption | (apply Ne.symm; assumption) | omega) | (apply At.extF; assumption))), by (repeat (first | exact Fr.refl _ _ | assumption | apply Fr.drewN | apply Fr.alloc | (apply Fr.transF; assumption) | (refine Fr.setRow ?_ _ (by first | exact Or.inr (by (first | omega | (simp; done) | (simp; omega))) | (exact Or.inl (by first | assumption | (simp; done)))))))⟩ ?_
      rintro w11 ⟨ha11, hn11, hqX11, hx11⟩
      have hz11 := (hz9.trans hx10).trans hx11
      have hl11 := hqX11.lt
      generalize w10.heap.size = bx at *
      repeat (first | refine sp ?_ | (refine is_load ?_; refine ld ?_) | (refine is_store ?_; refine sr ?_) | (refine is_alloc ?_; refine al ?_) | (refine is_box ?_; refine bx ?_) | (refine isl_load ?_; refine ldl ?_) | (refine isl_store ?_; refine srl ?_) | (refine isl_alloc ?_; refine all' ?_) | (refine isl_box ?_; refine bxl ?_))
      refine go_call rfl rfl (c_at12 w11 _ _ R.dump o (hdN.ext hz11) hdl2 hol) ?_
      rintro _ w12 ⟨rfl, hx12⟩
      rw [dump_nd hwfR, nodeOf_us n1.use, hY]
      have ha12 := ha11.ext hx12
      have hn12 := hn11.ext hx12
      have hqX12 := hqX11.ext hx12
      have hsz12 := hx12.size
      have hltX12 := hqX12.lt
      have hlta12 := ha12.lt
      have hltn12 := hn12.lt
      unfold Nd.cells
      repeat (first | refine sp ?_ | (refine is_load ?_; refine ld ?_) | (refine is_store ?_; refine sr ?_) | (refine is_alloc ?_; refine al ?_) | (refine is_box ?_; refine bx ?_) | (refine isl_load ?_; refine ldl ?_) | (refine isl_store ?_; refine srl ?_) | (refine isl_alloc ?_; refine all' ?_) | (refine isl_box ?_; refine bxl ?_))
      refine go_name (F := fun w13 => At w13 bd [.slice s1 A.dump.slots.length c1, .slice s2 A.dump.free.length c2] 49 ∧ At w13 bn [.slice s3 R.dump.slots.length c3, .slice s4 R.dump.free.length c4] 49 ∧ At w13 w12.heap.size [.int .i64 Y.key, .int .i64 Y.val, .int .u32 (Y.left : Int), .int .u32 (Y.right : Int), .int .i64 Y.size, .int .i64 Y.sum, .int .i64 Y.mn, .int .i64 Y.mx] 64 ∧ At w13 bx [.int .i64 X.key, .int .i64 X.val, .int .u32 (X.left : Int), .int .u32 (X.right : Int), .int .i64 X.size, .int .i64 X.sum, .int .i64 X.mn, .int .i64 X.mx] 64 ∧ Ext w12 w13) ⟨by (repeat (first | assumption | (refine At.new' (by (first | omega | (simp; done) | (simp; omega))) _ _) | apply At.alloc | apply At.drewN | apply At.setRow | (apply At.setRow_neF; first | assumption | (apply Ne.symm; assumption) | omega) | (apply At.extF; assumption))), by (repeat (first | assumption | (refine At.new' (by (first | omega | (simp; done) | (simp; omega))) _ _) | apply At.alloc | apply At.drewN | apply At.setRow | (apply At.setRow_neF; first | assumption | (apply Ne.symm; assumption) | omega) | (apply At.extF; assumption))), by (repeat (first | assumption | (refine At.new' (by (first | omega | (simp; done) | (simp; omega))) _ _) | apply At.alloc | apply At.drewN | apply At.setRow | (apply At.setRow_neF; first | assumption | (apply Ne.symm; assumption) | omega) | (apply At.extF; assumption))), by (repeat (first | assumption | (refine At.new' (by (first | omega | (simp; done) | (simp; omega))) _ _) | apply At.alloc | apply At.drewN | apply At.setRow | (apply At.setRow_neF; first | assumption | (apply Ne.symm; assumption) | omega) | (apply At.extF; assumption))), by (repeat (first | exact Fr.refl _ _ | assumption | apply Fr.drewN | apply Fr.alloc | (apply Fr.transF; assumption) | (refine Fr.setRow ?_ _ (by first | exact Or.inr (by (first | omega | (simp; done) | (simp; omega))) | (exact Or.inl (by first | assumption | (simp; done)))))))⟩ ?_
      rintro w13 ⟨ha13, hn13, hqY13, hqX13, hx13⟩
      have hz13 := (hz11.trans hx12).trans hx13
      have hl13 := hqY13.lt
      generalize w12.heap.size = by_ at *
      repeat (first | refine sp ?_ | (refine is_load ?_; refine ld ?_) | (refine is_store ?_; refine sr ?_) | (refine is_alloc ?_; refine al ?_) | (refine is_box ?_; refine bx ?_) | (refine isl_load ?_; refine ldl ?_) | (refine isl_store ?_; refine srl ?_) | (refine isl_alloc ?_; refine all' ?_) | (refine isl_box ?_; refine bxl ?_))
      refine go_call rfl rfl (c_at12 w13 _ _ A.dump X.right (hdA.ext hz13) hdl hXl) ?_
      rintro _ w14 ⟨rfl, hx14⟩
      rw [dump_nd hwf, nodeOf_us hF2, hP]
      have ha14 := ha13.ext hx14
      have hn14 := hn13.ext hx14
      have hqY14 := hqY13.ext hx14
      have hqX14 := hqX13.ext hx14
      have hsz14 := hx14.size
      have hltY14 := hqY14.lt
      have hltX14 := hqX14.lt
      have hlta14 := ha14.lt
      have hltn14 := hn14.lt
      unfold Nd.cells
      repeat (first | refine sp ?_ | (refine is_load ?_; refine ld ?_) | (refine is_store ?_; refine sr ?_) | (refine is_alloc ?_; refine al ?_) | (refine is_box ?_; refine bx ?_) | (refine isl_load ?_; refine ldl ?_) | (refine isl_store ?_; refine srl ?_) | (refine isl_alloc ?_; refine all' ?_) | (refine isl_box ?_; refine bxl ?_))
      refine go_name (F := fun w15 => At w15 bd [.slice s1 A.dump.slots.length c1, .slice s2 A.dump.free.length c2] 49 ∧ At w15 bn [.slice s3 R.dump.slots.length c3, .slice s4 R.dump.free.length c4] 49 ∧ At w15 w14.heap.size [.int .i64 P.key, .int .i64 P.val, .int .u32 (P.left : Int), .int .u32 (P.right : Int), .int .i64 P.size, .int .i64 P.sum, .int .i64 P.mn, .int .i64 P.mx] 64 ∧ At w15 by_ [.int .i64 Y.key, .int .i64 Y.val, .int .u32 (Y.left : Int), .int .u32 (Y.right : Int), .int .i64 Y.size, .int .i64 Y.sum, .int .i64 Y.mn, .int .i64 Y.mx] 64 ∧ At w15 bx [.int .i64 X.key, .int .i64 X.val, .int .u32 (X.left : Int), .int .u32 (X.right : Int), .int .i64 X.size, .int .i64 X.sum, .int .i64 X.mn, .int .i64 X.mx] 64 ∧ Ext w14 w15) ⟨by (repeat (first | assumption | (refine At.new' (by (first | omega | (simp; done) | (simp; omega))) _ _) | apply At.alloc | apply At.drewN | apply At.setRow | (apply At.setRow_neF; first | assumption | (apply Ne.symm; assumption) | omega) | (apply At.extF; assumption))), by (repeat (first | assumption | (refine At.new' (by (first | omega | (simp; done) | (simp; omega))) _ _) | apply At.alloc | apply At.drewN | apply At.setRow | (apply At.setRow_neF; first | assumption | (apply Ne.symm; assumption) | omega) | (apply At.extF; assumption))), by (repeat (first | assumption | (refine At.new' (by (first | omega | (simp; done) | (simp; omega))) _ _) | apply At.alloc | apply At.drewN | apply At.setRow | (apply At.setRow_neF; first | assumption | (apply Ne.symm; assumption) | omega) | (apply At.extF; assumption))), by (repeat (first | assumption | (refine At.new' (by (first | omega | (simp; done) | (simp; omega))) _ _) | apply At.alloc | apply At.drewN | apply At.setRow | (apply At.setRow_neF; first | assumption | (apply Ne.symm; assumption) | omega) | (apply At.extF; assumption))), by (repeat (first | assumption | (refine At.new' (by (first | omega | (simp; done) | (simp; omega))) _ _) | apply At.alloc | apply At.drewN | apply At.setRow | (apply At.setRow_neF; first | assumption | (apply Ne.symm; assumption) | omega) | (apply At.extF; assumption))), by (repeat (first | exact Fr.refl _ _ | assumption | apply Fr.drewN | apply Fr.alloc | (apply Fr.transF; assumption) | (refine Fr.setRow ?_ _ (by first | exact Or.inr (by (first | omega | (simp; done) | (simp; omega))) | (exact Or.inl (by first | assumption | (simp; done)))))))⟩ ?_
      rintro w15 ⟨ha15, hn15, hqP15, hqY15, hqX15, hx15⟩
      have hz15 := (hz13.trans hx14).trans hx15
      have hl15 := hqP15.lt
      generalize w14.heap.size = bp at *
      repeat (first | refine sp ?_ | (refine is_load ?_; refine ld ?_) | (refine is_store ?_; refine sr ?_) | (refine is_alloc ?_; refine al ?_) | (refine is_box ?_; refine bx ?_) | (refine isl_load ?_; refine ldl ?_) | (refine isl_store ?_; refine srl ?_) | (refine isl_alloc ?_; refine all' ?_) | (refine isl_box ?_; refine bxl ?_))
      refine go_call rfl rfl (c_at12 w15 _ _ R.dump Y.left (hdN.ext hz15) hdl2 (by rw [yj]; exact hjl)) ?_
      rintro _ w16 ⟨rfl, hx16⟩
      rw [dump_nd hwfR, yj, nodeOf_us n2.use, hZ]
      have ha16 := ha15.ext hx16
      have hn16 := hn15.ext hx16
      have hqP16 := hqP15.ext hx16
      have hqY16 := hqY15.ext hx16
      have hqX16 := hqX15.ext hx16
      have hsz16 := hx16.size
      have hltP16 := hqP16.lt
      have hltY16 := hqY16.lt
      have hltX16 := hqX16.lt
      have hlta16 := ha16.lt
      have hltn16 := hn16.lt
      unfold Nd.cells
      repeat (first | refine sp ?_ | (refine is_load ?_; refine ld ?_) | (refine is_store ?_; refine sr ?_) | (refine is_alloc ?_; refine al ?_) | (refine is_box ?_; refine bx ?_) | (refine isl_load ?_; refine ldl ?_) | (refine isl_store ?_; refine srl ?_) | (refine isl_alloc ?_; refine all' ?_) | (refine isl_box ?_; refine bxl ?_))
      refine go_name (F := fun w17 => At w17 bd [.slice s1 A.dump.slots.length c1, .slice s2 A.dump.free.length c2] 49 ∧ At w17 bn [.slice s3 R.dump.slots.length c3, .slice s4 R.dump.free.length c4] 49 ∧ At w17 w16.heap.size [.int .i64 Z.key, .int .i64 Z.val, .int .u32 (Z.left : Int), .int .u32 (Z.right : Int), .int .i64 Z.size, .int .i64 Z.sum, .int .i64 Z.mn, .int .i64 Z.mx] 64 ∧ At w17 bp [.int .i64 P.key, .int .i64 P.val, .int .u32 (P.left : Int), .int .u32 (P.right : Int), .int .i64 P.size, .int .i64 P.sum, .int .i64 P.mn, .int .i64 P.mx] 64 ∧ At w17 by_ [.int .i64 Y.key, .int .i64 Y.val, .int .u32 (Y.left : Int), .int .u32 (Y.right : Int), .int .i64 Y.size, .int .i64 Y.sum, .int .i64 Y.mn, .int .i64 Y.mx] 64 ∧ At w17 bx [.int .i64 X.key, .int .i64 X.val, .int .u32 (X.left : Int), .int .u32 (X.right : Int), .int .i64 X.size, .int .i64 X.sum, .int .i64 X.mn, .int .i64 X.mx] 64 ∧ Ext w16 w17) ⟨by (repeat (first | assumption | (refine At.new' (by (first | omega | (simp; done) | (simp; omega))) _ _) | apply At.alloc | apply At.drewN | apply At.setRow | (apply At.setRow_neF; first | assumption | (apply Ne.symm; assumption) | omega) | (apply At.extF; assumption))), by (repeat (first | assumption | (refine At.new' (by (first | omega | (simp; done) | (simp; omega))) _ _) | apply At.alloc | apply At.drewN | apply At.setRow | (apply At.setRow_neF; first | assumption | (apply Ne.symm; assumption) | omega) | (apply At.extF; assumption))), by (repeat (first | assumption | (refine At.new' (by (first | omega | (simp; done) | (simp; omega))) _ _) | apply At.alloc | apply At.drewN | apply At.setRow | (apply At.setRow_neF; first | assumption | (apply Ne.symm; assumption) | omega) | (apply At.extF; assumption))), by (repeat (first | assumption | (refine At.new' (by (first | omega | (simp; done) | (simp; omega))) _ _) | apply At.alloc | apply At.drewN | apply At.setRow | (apply At.setRow_neF; first | assumption | (apply Ne.symm; assumption) | omega) | (apply At.extF; assumption))), by (repeat (first | assumption | (refine At.new' (by (first | omega | (simp; done) | (simp; omega))) _ _) | apply At.alloc | apply At.drewN | apply At.setRow | (apply At.setRow_neF; first | assumption | (apply Ne.symm; assumption) | omega) | (apply At.extF; assumption))), by (repeat (first | assumption | (refine At.new' (by (first | omega | (simp; done) | (simp; omega))) _ _) | apply At.alloc | apply At.drewN | apply At.setRow | (apply At.setRow_neF; first | assumption | (apply Ne.symm; assumption) | omega) | (apply At.extF; assumption))), by (repeat (first | exact Fr.refl _ _ | assumption | apply Fr.drewN | apply Fr.alloc | (apply Fr.transF; assumption) | (refine Fr.setRow ?_ _ (by first | exact Or.inr (by (first | omega | (simp; done) | (simp; omega))) | (exact Or.inl (by first | assumption | (simp; done)))))))⟩ ?_
      rintro w17 ⟨ha17, hn17, hqZ17, hqP17, hqY17, hqX17, hx17⟩
      have hz17 := (hz15.trans hx16).trans hx17
      have hl17 := hqZ17.lt
      generalize w16.heap.size = bz at *
      repeat (first | refine sp ?_ | (refine is_load ?_; refine ld ?_) | (refine is_store ?_; refine sr ?_) | (refine is_alloc ?_; refine al ?_) | (refine is_box ?_; refine bx ?_) | (refine isl_load ?_; refine ldl ?_) | (refine isl_store ?_; refine srl ?_) | (refine isl_alloc ?_; refine all' ?_) | (refine isl_box ?_; refine bxl ?_))
      refine go_call rfl rfl (c_is w17 Y P Y.left P.right y1 y2 rfl yk) ?_
      rintro _ w18 ⟨rfl, hx18⟩
      have ha18 := ha17.ext hx18
      have hn18 := hn17.ext hx18
      have hqX18 := hqX17.ext hx18
      have hqY18 := hqY17.ext hx18
      have hqP18 := hqP17.ext hx18
      have hqZ18 := hqZ17.ext hx18
      have hz18 := hz17.trans hx18
      repeat (first | refine sp ?_ | (refine is_load ?_; refine ld ?_) | (refine is_store ?_; refine sr ?_) | (refine is_alloc ?_; refine al ?_) | (refine is_box ?_; refine bx ?_) | (refine isl_load ?_; refine ldl ?_) | (refine isl_store ?_; refine srl ?_) | (refine isl_alloc ?_; refine all' ?_) | (refine isl_box ?_; refine bxl ?_))
      refine go_call rfl rfl (c_is w18 Z X X.left P.left z1 z2 z3 z4) ?_
      rintro _ w19 ⟨rfl, hx19⟩
      have ha19 := ha18.ext hx19
      have hn19 := hn18.ext hx19
      have hqX19 := hqX18.ext hx19
      have hqY19 := hqY18.ext hx19
      have hqP19 := hqP18.ext hx19
      have hqZ19 := hqZ18.ext hx19
      have hz19 := hz18.trans hx19
      repeat (first | refine sp ?_ | (refine is_load ?_; refine ld ?_) | (refine is_store ?_; refine sr ?_) | (refine is_alloc ?_; refine al ?_) | (refine is_box ?_; refine bx ?_) | (refine isl_load ?_; refine ldl ?_) | (refine isl_store ?_; refine srl ?_) | (refine isl_alloc ?_; refine all' ?_) | (refine isl_box ?_; refine bxl ?_))
      refine go_call rfl rfl (c_fresh w19 _ _ _ _ A.dump R.dump Y.left (hdA.ext hz19) (hdN.ext hz19) hdl hdl2 (by rw [yj]; exact hjl) (by rw [dump_al hwf, yj]; exact n2.new) (by rw [dump_al hwfR, yj]; exact n2.use)) ?_
      rintro _ w20 ⟨rfl, hx20⟩
      have ha20 := ha19.ext hx20
      have hn20 := hn19.ext hx20
      have hqX20 := hqX19.ext hx20
      have hqY20 := hqY19.ext hx20
      have hqP20 := hqP19.ext hx20
      have hqZ20 := hqZ19.ext hx20
      have hz20 := hz19.trans hx20
      repeat (first | refine sp ?_ | (refine is_load ?_; refine ld ?_) | (refine is_store ?_; refine sr ?_) | (refine is_alloc ?_; refine al ?_) | (refine is_box ?_; refine bx ?_) | (refine isl_load ?_; refine ldl ?_) | (refine isl_store ?_; refine srl ?_) | (refine isl_alloc ?_; refine all' ?_) | (refine isl_box ?_; refine bxl ?_))
      refine go_call rfl rfl (c_fresh w20 _ _ _ _ A.dump R.dump o (hdA.ext hz20) (hdN.ext hz20) hdl hdl2 hol (by rw [dump_al hwf]; exact n1.new) (by rw [dump_al hwfR]; exact n1.use)) ?_
      rintro _ w21 ⟨rfl, hx21⟩
      have ha21 := ha20.ext hx21
      have hn21 := hn20.ext hx21
      have hqX21 := hqX20.ext hx21
      have hqY21 := hqY20.ext hx21
      have hqP21 := hqP20.ext hx21
      have hqZ21 := hqZ20.ext hx21
      have hz21 := hz20.trans hx21
      repeat (first | refine sp ?_ | (refine is_load ?_; refine ld ?_) | (refine is_store ?_; refine sr ?_) | (refine is_alloc ?_; refine al ?_) | (refine is_box ?_; refine bx ?_) | (refine isl_load ?_; refine ldl ?_) | (refine isl_store ?_; refine srl ?_) | (refine isl_alloc ?_; refine all' ?_) | (refine isl_box ?_; refine bxl ?_))
      have g21 := g6.ext (hx69.trans hz21)
      refine go_call rfl rfl (p_Free w21 lo p q6 R g21.ar) ?_
      rintro _ w22 ⟨rfl, hx22⟩
      have ha22 := ha21.ext hx22
      have hn22 := hn21.ext hx22
      have hqX22 := hqX21.ext hx22
      have hqY22 := hqY21.ext hx22
      have hqP22 := hqP21.ext hx22
      have hqZ22 := hqZ21.ext hx22
      have hz22 := hz21.trans hx22
      repeat (first | refine sp ?_ | (refine is_load ?_; refine ld ?_) | (refine is_store ?_; refine sr ?_) | (refine is_alloc ?_; refine al ?_) | (refine is_box ?_; refine bx ?_) | (refine isl_load ?_; refine ldl ?_) | (refine isl_store ?_; refine srl ?_) | (refine isl_alloc ?_; refine all' ?_) | (refine isl_box ?_; refine bxl ?_))
      refine go_call rfl rfl (c_Kept w22 _ _ _ _ A.dump R.dump (hdA.ext hz22) (hdN.ext hz22) (kp6.kept hwf) hdl) ?_
      rintro _ w23 ⟨rfl, hx23⟩
      have hz23 := hz22.trans hx23
      have hx623 := hx69.trans hz23
      have own23 := Own.ext own6 hx623
      have g23 := g6.ext hx623
      repeat (first | refine sp ?_ | (refine is_load ?_; refine ld ?_) | (refine is_store ?_; refine sr ?_) | (refine is_alloc ?_; refine al ?_) | (refine is_box ?_; refine bx ?_) | (refine isl_load ?_; refine ldl ?_) | (refine isl_store ?_; refine srl ?_) | (refine isl_alloc ?_; refine all' ?_) | (refine isl_box ?_; refine bxl ?_))
      refine go_litG (l := [.int .u32 (o : Int)]) rfl rfl (by decide) (by decide) rfl ?_
      have hx24 : Ext w23 (w23.alloc (.cells [Value.int .u32 (o : Int)].toArray 32)) := by (repeat (first | exact Fr.refl _ _ | assumption | apply Fr.drewN | apply Fr.alloc | (apply Fr.transF; assumption) | (refine Fr.setRow ?_ _ (by first | exact Or.inr (by (first | omega | (simp; done) | (simp; omega))) | (exact Or.inl (by first | assumption | (simp; done)))))))
      have hat24 := At.new w23 [Value.int .u32 (o : Int)] 32
      have own24 := Own.ext own23 hx24
      have g24 := g23.ext hx24
      have hx624 := hx623.trans hx24
      have hsw := (hx06.trans hx624).size
      generalize w23.alloc (.cells [Value.int .u32 (o : Int)].toArray 32) = w24 at *
      generalize w23.heap.size = nb at *
      repeat (first | refine sp ?_ | (refine is_load ?_; refine ld ?_) | (refine is_store ?_; refine sr ?_) | (refine is_alloc ?_; refine al ?_) | (refine is_box ?_; refine bx ?_) | (refine isl_load ?_; refine ldl ?_) | (refine isl_store ?_; refine srl ?_) | (refine isl_alloc ?_; refine all' ?_) | (refine isl_box ?_; refine bxl ?_))
      refine go_appendG (r := 1) (c := 1) (sa := some ⟨nb, 0, none⟩) (news := [.int .u32 (o : Int)]) (by decide) rfl rfl rfl own24 (by
        intro j u hj
        exact ⟨_, _, rfl, by have := hat24.cell (i := j) (v := u) hj; simpa using this⟩) rfl (by intro u hu; simp at hu; subst hu; rfl) (by simp [maxLen]; omega) (by omega) hsw ?_
      intro v25 w25 ho25 hg25 hbk25
      have ho25' : OwnN w25 w.heap.size v25 (ms ++ [o]) := by
        unfold OwnN
        rw [List.map_append, List.length_append]
        exact ho25
      have b25 := b5.push g24 kp6 (Or.inr n1.use) hq6 (hf6.trans (hx624.mono fun _ e => e.elim)) (by omega) ho25' hg25 (fun b hb => (hbk25 b hb).imp id fun e => by omega)
      have hr25 : RdU w25 w25.heap.size v25 u32c (ms ++ [o]) := by
        have h1 := ho25'
        unfold OwnN at h1
        rw [← flatMap_one] at h1
        exact (Own.rd (enc := u32c) h1 rfl).up
      obtain ⟨sv25, cv25, rfl, _, _⟩ := Own.slice ho25'
      repeat (first | refine sp ?_ | (refine is_load ?_; refine ld ?_) | (refine is_store ?_; refine sr ?_) | (refine is_alloc ?_; refine al ?_) | (refine is_box ?_; refine bx ?_) | (refine isl_load ?_; refine ldl ?_) | (refine isl_store ?_; refine srl ?_) | (refine isl_alloc ?_; refine all' ?_) | (refine isl_box ?_; refine bxl ?_))
      refine go_call rfl rfl (c_KSound w25 lo p _ q6 _ R _ (ms ++ [o]) b25.ars.ar b25.ars.snd hr25 (Nat.le_refl _) (by have := b25.len.2; omega) (fun x hx => used_lt hwfR (b25.us x hx)) (fun i hi => rfl)) ?_
      rintro _ w26 ⟨rfl, hx26⟩
      repeat (first | refine sp ?_ | (refine is_load ?_; refine ld ?_) | (refine is_store ?_; refine sr ?_) | (refine is_alloc ?_; refine al ?_) | (refine is_box ?_; refine bx ?_) | (refine isl_load ?_; refine ldl ?_) | (refine isl_store ?_; refine srl ?_) | (refine isl_alloc ?_; refine all' ?_) | (refine isl_box ?_; refine bxl ?_))
      exact go_ret1 rfl rfl ⟨_, rfl, rfl, b25.ext.trans hx26⟩
    · have hat6 := hat5.fr hf6 (fun h => by have := hfp _ h; omega)
      have hd6 : DpAt w6 w3.heap.size _ A.dump := hd5.fr hf6 fun b h1 h2 h => by have := hfp b h; omega
      have hx06 : Ext w w6 := b5.ext.trans' hf6 fun b hb e => by have := b5.ars.lof b e; have := b5.lo0; omega
      have hlat := hat6.lt
      repeat (first | refine sp ?_ | (refine is_load ?_; refine ld ?_) | (refine is_store ?_; refine sr ?_) | (refine is_alloc ?_; refine al ?_) | (refine is_box ?_; refine bx ?_) | (refine isl_load ?_; refine ldl ?_) | (refine isl_store ?_; refine srl ?_) | (refine isl_alloc ?_; refine all' ?_) | (refine isl_box ?_; refine bxl ?_))
      refine go_call rfl rfl (p_Dump w6 lo p q B' g6.ar) ?_
      rintro _ w7 ⟨hd7, hx7⟩
      rw [r6.dumpE] at hd7
      obtain ⟨s3, c3, s4, c4, rfl, _, _⟩ := hd7.b
      have hat7 := hat6.ext hx7
      have hl67 := hx7.size
      repeat (first | refine sp ?_ | (refine is_load ?_; refine ld ?_) | (refine is_store ?_; refine sr ?_) | (refine is_alloc ?_; refine al ?_) | (refine is_box ?_; refine bx ?_) | (refine isl_load ?_; refine ldl ?_) | (refine isl_store ?_; refine srl ?_) | (refine isl_alloc ?_; refine all' ?_) | (refine isl_box ?_; refine bxl ?_))
      refine go_name (F := fun w8 => At w8 w7.heap.size [.slice s3 A.dump.slots.length c3, .slice s4 A.dump.free.length c4] 49 ∧ At w8 bd [.slice s1 A.dump.slots.length c1, .slice s2 A.dump.free.length c2] 49 ∧ Ext w7 w8) ⟨by (repeat (first | assumption | (refine At.new' (by (first | omega | (simp; done) | (simp; omega))) _ _) | apply At.alloc | apply At.drewN | apply At.setRow | (apply At.setRow_neF; first | assumption | (apply Ne.symm; assumption) | omega) | (apply At.extF; assumption))), by (repeat (first | assumption | (refine At.new' (by (first | omega | (simp; done) | (simp; omega))) _ _) | apply At.alloc | apply At.drewN | apply At.setRow | (apply At.setRow_neF; first | assumption | (apply Ne.symm; assumption) | omega) | (apply At.extF; assumption))), by (repeat (first | exact Fr.refl _ _ | assumption | apply Fr.drewN | apply Fr.alloc | (apply Fr.transF; assumption) | (refine Fr.setRow ?_ _ (by first | exact Or.inr (by (first | omega | (simp; done) | (simp; omega))) | (exact Or.inl (by first | assumption | (simp; done)))))))⟩ ?_
      rintro w8 ⟨hn8, ha8, hx8⟩
      have hdA := (hd6.ext hx7).ext hx8
      have hdN := hd7.ext hx8
      refine go_call rfl rfl (c_formed w8 _ _ A _ rt 0 sndA hdA hrl hk1) ?_
      rintro _ w9 ⟨⟨bb, rfl, hbb⟩, hx9⟩
      have hn9 := hn8.ext hx9
      have ha9 := ha8.ext hx9
      have hx69 := (hx7.trans hx8).trans hx9
      rcases hE with ⟨rfl, hnF⟩ | ⟨rfl, hF, hfl⟩
      · obtain rfl : bb = false := by
          cases bb with
          | false => rfl
          | true => exact absurd (hbb.1 rfl) hnF
        repeat (first | refine sp ?_ | (refine is_load ?_; refine ld ?_) | (refine is_store ?_; refine sr ?_) | (refine is_alloc ?_; refine al ?_) | (refine is_box ?_; refine bx ?_) | (refine isl_load ?_; refine ldl ?_) | (refine isl_store ?_; refine srl ?_) | (refine isl_alloc ?_; refine all' ?_) | (refine isl_box ?_; refine bxl ?_))
        refine go_call rfl rfl (c_SameDump w9 _ _ _ _ A.dump (hdA.ext hx9) (hdN.ext hx9) hdl hdl') ?_
        rintro _ w10 ⟨rfl, hx10⟩
        repeat (first | refine sp ?_ | (refine is_load ?_; refine ld ?_) | (refine is_store ?_; refine sr ?_) | (refine is_alloc ?_; refine al ?_) | (refine is_box ?_; refine bx ?_) | (refine isl_load ?_; refine ldl ?_) | (refine isl_store ?_; refine srl ?_) | (refine isl_alloc ?_; refine all' ?_) | (refine isl_box ?_; refine bxl ?_))
        exact go_ret1 rfl rfl ⟨_, rfl, rfl, (hx06.trans hx69).trans hx10⟩
      · obtain rfl : bb = true := hbb.2 hF
        have hfl : A.free < 2 := hfl
        repeat (first | refine sp ?_ | (refine is_load ?_; refine ld ?_) | (refine is_store ?_; refine sr ?_) | (refine is_alloc ?_; refine al ?_) | (refine is_box ?_; refine bx ?_) | (refine isl_load ?_; refine ldl ?_) | (refine isl_store ?_; refine srl ?_) | (refine isl_alloc ?_; refine all' ?_) | (refine isl_box ?_; refine bxl ?_))
        refine go_call rfl rfl (c_SameDump w9 _ _ _ _ A.dump (hdA.ext hx9) (hdN.ext hx9) hdl hdl') ?_
        rintro _ w10 ⟨rfl, hx10⟩
        repeat (first | refine sp ?_ | (refine is_load ?_; refine ld ?_) | (refine is_store ?_; refine sr ?_) | (refine is_alloc ?_; refine al ?_) | (refine is_box ?_; refine bx ?_) | (refine isl_load ?_; refine ldl ?_) | (refine isl_store ?_; refine srl ?_) | (refine isl_alloc ?_; refine all' ?_) | (refine isl_box ?_; refine bxl ?_))
        exact go_ret1 rfl rfl ⟨_, rfl, rfl, (hx06.trans hx69).trans hx10⟩

end Go.Proofs.Ytklgmomhdlhajaa
