/-
  ArenaAgrees.
-/
import Derived.Test.YtapocbahkeoeoaaTw
set_option linter.unusedVariables false
namespace Go.Proofs.Ytapocbahkeoeoaa
open Go.Vc

theorem nd_eqL (N : Nd) : eqL N.cells N.cells = true := by simp [Nd.cells, eqL]


set_option maxHeartbeats 4000000 in
theorem c_LawAgrees (cap : Int) (lv : Value) (l : List Stp) (w : World) (h : Rd w 0 lv Stp.cells l) (hw : ∀ s ∈ l, s.wf) (hlen : l.length ≤ 9223372036854775807) (hcp : -9223372036854775808 ≤ cap ∧ cap ≤ 9223372036854775807) :
    Calls Try.prog 11 [.int .i64 cap, lv].toArray w (Ret fun r w' => r = .bool true ∧ Ext w w') := by
  have m1 := Int.emod_nonneg cap (show (12 : Int) ≠ 0 by omega)
  have m2 := Int.emod_lt_of_pos cap (show (0 : Int) < 12 by omega)
  obtain ⟨sl, cl, rfl, hcl, hr, hb⟩ := h
  refine calls_go Try.func11 rfl Try.ntmps11 (Nat.le_of_ble_eq_true rfl) ?_
  by_cases h80 : 80 < l.length
  · repeat (first | refine sp ?_ | (refine is_load ?_; refine ld ?_) | (refine is_store ?_; refine sr ?_) | (refine is_alloc ?_; refine al ?_) | (refine is_box ?_; refine bx ?_) | (refine isl_load ?_; refine ldl ?_) | (refine isl_store ?_; refine srl ?_) | (refine isl_alloc ?_; refine all' ?_) | (refine isl_box ?_; refine bxl ?_))
    refine go_call rfl rfl (c_awake w) ?_
    rintro _ w1 ⟨rfl, hx1⟩
    repeat (first | refine sp ?_ | (refine is_load ?_; refine ld ?_) | (refine is_store ?_; refine sr ?_) | (refine is_alloc ?_; refine al ?_) | (refine is_box ?_; refine bx ?_) | (refine isl_load ?_; refine ldl ?_) | (refine isl_store ?_; refine srl ?_) | (refine isl_alloc ?_; refine all' ?_) | (refine isl_box ?_; refine bxl ?_))
    exact go_ret1 rfl rfl ⟨_, rfl, rfl, hx1⟩
  repeat (first | refine sp ?_ | (refine is_load ?_; refine ld ?_) | (refine is_store ?_; refine sr ?_) | (refine is_alloc ?_; refine al ?_) | (refine is_box ?_; refine bx ?_) | (refine isl_load ?_; refine ldl ?_) | (refine isl_store ?_; refine srl ?_) | (refine isl_alloc ?_; refine all' ?_) | (refine isl_box ?_; refine bxl ?_))
  refine go_call rfl rfl (c_Mod cap 12 _ hcp (by omega)) ?_
  rintro _ w ⟨rfl, rfl⟩
  obtain ⟨n, hn⟩ : ∃ n : Nat, 1 + cap % 12 = (n : Int) := ⟨(1 + cap % 12).toNat, by omega⟩
  repeat (first | refine sp ?_ | (refine is_load ?_; refine ld ?_) | (refine is_store ?_; refine sr ?_) | (refine is_alloc ?_; refine al ?_) | (refine is_box ?_; refine bx ?_) | (refine isl_load ?_; refine ldl ?_) | (refine isl_store ?_; refine srl ?_) | (refine isl_alloc ?_; refine all' ?_) | (refine isl_box ?_; refine bxl ?_))
  refine go_as 5 (u' := .int .i64 (n : Int)) rfl (by rw [hn]) ?_
  refine go_as 34 (u' := .int .i64 (n : Int)) rfl (by rw [hn]) ?_
  refine go_call rfl rfl (p_New w n (by omega) (by omega)) ?_
  rintro _ w1 ⟨p, q, rfl, ha1, hq1, hx1⟩
  have hl1 := hx1.size
  repeat (first | refine sp ?_ | (refine is_load ?_; refine ld ?_) | (refine is_store ?_; refine sr ?_) | (refine is_alloc ?_; refine al ?_) | (refine is_box ?_; refine bx ?_) | (refine isl_load ?_; refine ldl ?_) | (refine isl_store ?_; refine srl ?_) | (refine isl_alloc ?_; refine all' ?_) | (refine isl_box ?_; refine bxl ?_))
  refine go_call rfl rfl (c_rfNewL w1 n (by omega) (by omega)) ?_
  rintro _ w2 ⟨r, V, rfl, hr2, hx2, hvl⟩
  have g2 : Tw w w2 w.heap.size p r q V (AR.new n) (AR.new n) := by
    refine ⟨ha1.ext hx2, hr2.low hl1, fun b hb e => ?_, hq1, Nat.le_trans hl1 hx2.size, hx1.trans hx2, Nat.le_refl _⟩
    have h1 := ha1.lt b e
    have h2 := hr2.los
    rcases hb with e | e | e | e
    · omega
    · omega
    · omega
    · have := hvl b e; omega
  repeat (first | refine sp ?_ | (refine is_load ?_; refine ld ?_) | (refine is_store ?_; refine sr ?_) | (refine is_alloc ?_; refine al ?_) | (refine is_box ?_; refine bx ?_) | (refine isl_load ?_; refine ldl ?_) | (refine isl_store ?_; refine srl ?_) | (refine isl_alloc ?_; refine all' ?_) | (refine isl_box ?_; refine bxl ?_))
  refine go_call rfl rfl (c_awake w2) ?_
  rintro _ w3 ⟨rfl, hx3⟩
  have g3 := g2.ext hx3
  have c3 : Cm2 (AR.new n) (fun _ => 0) 0 := Cm2.new (by omega) (by omega)
  clear g2
  obtain ⟨lo, hlo⟩ : ∃ lo, w.heap.size = lo := ⟨_, rfl⟩
  rw [hlo] at g3
  repeat (first | refine sp ?_ | (refine is_load ?_; refine ld ?_) | (refine is_store ?_; refine sr ?_) | (refine is_alloc ?_; refine al ?_) | (refine is_box ?_; refine bx ?_) | (refine isl_load ?_; refine ldl ?_) | (refine isl_store ?_; refine srl ?_) | (refine isl_alloc ?_; refine all' ?_) | (refine isl_box ?_; refine bxl ?_))
  refine go_loop (G := Nat) [9] (fun k => [.int .i64 (k : Int)]) [(1, .slice sl l.length cl), (5, .int .i64 (n : Int)), (6, ptr p), (8, ptr r)]
    (fun k w' => k ≤ l.length ∧ ∃ q V A h, Tw w w' lo p r q V A A ∧ Cm2 A h k) (fun k => l.length - k) 0 rfl ⟨rfl, rfl, rfl, rfl, trivial⟩ ⟨by omega, q, V, _, _, g3, c3⟩ ?_
  clear g3 c3 hq1 ha1 hvl hr2
  rintro k w4 ⟨hk, q, V, A, h, g, c⟩
  have hx4 := g.x
  by_cases hlt : k < l.length
  · obtain ⟨b, o, rfl, hcell⟩ := (hr.ext hx4).at (m := 5) (fun _ => rfl) (by omega) hlt
    have hwk := hw l[k] (List.getElem_mem hlt)
    generalize l[k] = s at hcell hwk
    repeat (first | refine sp ?_ | (refine is_load ?_; refine ld ?_) | (refine is_store ?_; refine sr ?_) | (refine is_alloc ?_; refine al ?_) | (refine is_box ?_; refine bx ?_) | (refine isl_load ?_; refine ldl ?_) | (refine isl_store ?_; refine srl ?_) | (refine isl_alloc ?_; refine all' ?_) | (refine isl_box ?_; refine bxl ?_))
    refine go_load (v := .agg (stepC s.kd s.key s.val s.l s.r).toArray) rfl rfl (ld_cells (m := 5) rfl (by decide) fun j u hj => by rw [addr_add]; exact hcell j u hj) ?_
    unfold stepC
    repeat (first | refine sp ?_ | (refine is_load ?_; refine ld ?_) | (refine is_store ?_; refine sr ?_) | (refine is_alloc ?_; refine al ?_) | (refine is_box ?_; refine bx ?_) | (refine isl_load ?_; refine ldl ?_) | (refine isl_store ?_; refine srl ?_) | (refine isl_alloc ?_; refine all' ?_) | (refine isl_box ?_; refine bxl ?_))
    refine go_name (F := fun w5 => At w5 w4.heap.size [.int .i64 s.kd, .int .i64 s.key, .int .i64 s.val, .int .u32 (s.l : Int), .int .u32 (s.r : Int)] 77 ∧ Ext w4 w5) ⟨by (repeat (first | assumption | (refine At.new' (by (first | omega | (simp; done) | (simp; omega))) _ _) | apply At.alloc | apply At.drewN | apply At.setRow | (apply At.setRow_neF; first | assumption | (apply Ne.symm; assumption) | omega) | (apply At.extF; assumption))), by (repeat (first | exact Fr.refl _ _ | assumption | apply Fr.drewN | apply Fr.alloc | (apply Fr.transF; assumption) | (refine Fr.setRow ?_ _ (by first | exact Or.inr (by (first | omega | (simp; done) | (simp; omega))) | (exact Or.inl (by first | assumption | (simp; done)))))))⟩ ?_
    rintro w5 ⟨hs5, hx5⟩
    refine go_drawE (Fr (fun _ => False) w5) 0 Try.follows (by kernel_rfl) (by kernel_rfl) (by kernel_rfl) ((Fr.refl _ _).drewN 1) ?_
    repeat (first | refine sp ?_ | (refine is_load ?_; refine ld ?_) | (refine is_store ?_; refine sr ?_) | (refine is_alloc ?_; refine al ?_) | (refine is_box ?_; refine bx ?_) | (refine isl_load ?_; refine ldl ?_) | (refine isl_store ?_; refine srl ?_) | (refine isl_alloc ?_; refine all' ?_) | (refine isl_box ?_; refine bxl ?_))
    refine gol_call rfl rfl (c_slot (w5.drewN 1) s.l n hwk.2.2.1 (by omega)) ?_
    rintro _ w6 ⟨i, rfl, hi, rfl⟩
    refine ⟨(Fr.refl _ _).drewN 1, ?_⟩
    repeat (first | refine sp ?_ | (refine is_load ?_; refine ld ?_) | (refine is_store ?_; refine sr ?_) | (refine is_alloc ?_; refine al ?_) | (refine is_box ?_; refine bx ?_) | (refine isl_load ?_; refine ldl ?_) | (refine isl_store ?_; refine srl ?_) | (refine isl_alloc ?_; refine all' ?_) | (refine isl_box ?_; refine bxl ?_))
    refine gol_call rfl rfl (c_slot (w5.drewN 1) s.r n hwk.2.2.2 (by omega)) ?_
    rintro _ w6 ⟨j, rfl, hj, rfl⟩
    refine ⟨(Fr.refl _ _).drewN 1, ?_⟩
    have hxd : Ext w5 (w5.drewN 1) := (Fr.refl _ _).drewN 1
    replace hs5 := hs5.ext hxd
    replace hx5 := hx5.trans hxd
    generalize w5.drewN 1 = w5 at *
    replace g := g.ext hx5
    have km1 := Int.emod_nonneg s.kd (show (6 : Int) ≠ 0 by omega)
    have km2 := Int.emod_lt_of_pos s.kd (show (0 : Int) < 6 by omega)
    repeat (first | refine sp ?_ | (refine is_load ?_; refine ld ?_) | (refine is_store ?_; refine sr ?_) | (refine is_alloc ?_; refine al ?_) | (refine is_box ?_; refine bx ?_) | (refine isl_load ?_; refine ldl ?_) | (refine isl_store ?_; refine srl ?_) | (refine isl_alloc ?_; refine all' ?_) | (refine isl_box ?_; refine bxl ?_))
    refine go_call rfl rfl (c_Mod s.kd 6 _ hwk.1 (by omega)) ?_
    rintro _ w5 ⟨rfl, rfl⟩
    by_cases e3 : s.kd % 6 = 3
    · repeat (first | refine sp ?_ | (refine is_load ?_; refine ld ?_) | (refine is_store ?_; refine sr ?_) | (refine is_alloc ?_; refine al ?_) | (refine is_box ?_; refine bx ?_) | (refine isl_load ?_; refine ldl ?_) | (refine isl_store ?_; refine srl ?_) | (refine isl_alloc ?_; refine all' ?_) | (refine isl_box ?_; refine bxl ?_))
      refine go_call rfl rfl (p_Retain w5 lo p q A i g.ar hi) ?_
      rintro _ w6 ⟨rfl, ha6, hf6⟩
      have g6 := g.stA ha6 (fun b hb => Or.inl hb) hf6
      repeat (first | refine sp ?_ | (refine is_load ?_; refine ld ?_) | (refine is_store ?_; refine sr ?_) | (refine is_alloc ?_; refine al ?_) | (refine is_box ?_; refine bx ?_) | (refine isl_load ?_; refine ldl ?_) | (refine isl_store ?_; refine srl ?_) | (refine isl_alloc ?_; refine all' ?_) | (refine isl_box ?_; refine bxl ?_))
      refine go_call rfl rfl (c_rfRetain w6 lo r V A i g6.rf hi) ?_
      rintro _ w7 ⟨rfl, hb7, hf7⟩
      have g7 := g6.stB hb7 ⟨fun b hb => Or.inl hb, hf7.mono fun b e => Or.inr (Or.inr e), rfl, rfl⟩
      obtain ⟨hN, cN⟩ := c.retain (by omega) i
      clear g6 hb7 ha6
      repeat (first | refine sp ?_ | (refine is_load ?_; refine ld ?_) | (refine is_store ?_; refine sr ?_) | (refine is_alloc ?_; refine al ?_) | (refine is_box ?_; refine bx ?_) | (refine isl_load ?_; refine ldl ?_) | (refine isl_store ?_; refine srl ?_) | (refine isl_alloc ?_; refine all' ?_) | (refine isl_box ?_; refine bxl ?_))
      have gN := g7
      clear g
      obtain ⟨AN, hAN⟩ : ∃ x, x = A.retain i := ⟨_, rfl⟩
      rw [← hAN] at gN cN
      obtain ⟨qN, rfl⟩ : ∃ x, x = q := ⟨_, rfl⟩
      obtain ⟨VN, rfl⟩ : ∃ x, x = V := ⟨_, rfl⟩
      obtain ⟨wN, rfl⟩ : ∃ x, x = w7 := ⟨_, rfl⟩
      skip
      have hwfN := cN.snd.wf
      have hdl := dump_len5 hwfN
      have hzN : ∀ i, 1 ≤ i → i ≤ AN.cap → AN.countOf i = AN.cnt i := fun i hi _ => (cN.ct (by omega)).hz i hi
      have hrN := gN.rf.hr
      unfold rfC at hrN
      have hol := order_len hwfN
      have hcMN := hwfN.capM
      refine go_drawE (Fr (fun _ => False) wN) 0 Try.follows (by kernel_rfl) (by kernel_rfl) (by kernel_rfl) ((Fr.refl _ _).drewN 1) ?_
      repeat (first | refine sp ?_ | (refine is_load ?_; refine ld ?_) | (refine is_store ?_; refine sr ?_) | (refine is_alloc ?_; refine al ?_) | (refine is_box ?_; refine bx ?_) | (refine isl_load ?_; refine ldl ?_) | (refine isl_store ?_; refine srl ?_) | (refine isl_alloc ?_; refine all' ?_) | (refine isl_box ?_; refine bxl ?_))
      have hxd : Ext wN (wN.drewN 1) := (Fr.refl _ _).drewN 1
      refine gol_call rfl rfl (p_Free (wN.drewN 1) lo p qN AN (gN.ext hxd).ar) ?_
      rintro _ wa ⟨rfl, hxa⟩
      replace hxa : Ext wN wa := hxd.trans hxa
      refine ⟨hxa, ?_⟩
      have hra := hrN.ext hxa
      repeat (first | refine sp ?_ | (refine is_load ?_; refine ld ?_) | (refine is_store ?_; refine sr ?_) | (refine is_alloc ?_; refine al ?_) | (refine is_box ?_; refine bx ?_) | (refine isl_load ?_; refine ldl ?_) | (refine isl_store ?_; refine srl ?_) | (refine isl_alloc ?_; refine all' ?_) | (refine isl_box ?_; refine bxl ?_))
      have hco := c_rfOrder wa lo VN AN (gN.rf.hs.ext hxa) hwfN
      unfold rsC at hco
      refine gol_call rfl rfl hco ?_
      rintro fv wb ⟨hob, hxb⟩
      replace hxb : Ext wN wb := hxa.trans hxb
      refine ⟨hxb, ?_⟩
      obtain ⟨sf, cf, rfl, _, _⟩ := Own.slice hob
      have hrb := hrN.ext hxb
      rw [hol]
      repeat (first | refine sp ?_ | (refine is_load ?_; refine ld ?_) | (refine is_store ?_; refine sr ?_) | (refine is_alloc ?_; refine al ?_) | (refine is_box ?_; refine bx ?_) | (refine isl_load ?_; refine ldl ?_) | (refine isl_store ?_; refine srl ?_) | (refine isl_alloc ?_; refine all' ?_) | (refine isl_box ?_; refine bxl ?_))
      refine gol_call rfl rfl (p_Reads wb lo p qN AN (gN.ext hxb).ar) ?_
      rintro _ wb ⟨rfl, rfl⟩
      refine ⟨hxb, ?_⟩
      repeat (first | refine sp ?_ | (refine is_load ?_; refine ld ?_) | (refine is_store ?_; refine sr ?_) | (refine is_alloc ?_; refine al ?_) | (refine is_box ?_; refine bx ?_) | (refine isl_load ?_; refine ldl ?_) | (refine isl_store ?_; refine srl ?_) | (refine isl_alloc ?_; refine all' ?_) | (refine isl_box ?_; refine bxl ?_))
      refine gol_call rfl rfl (p_Dump wb lo p qN AN (gN.ext hxb).ar) ?_
      rintro _ wc ⟨hdc, hxc⟩
      have hdc' := hdc
      replace hxc : Ext wN wc := hxb.trans hxc
      refine ⟨hxc, ?_⟩
      obtain ⟨y1, y2, rfl, _, _⟩ := hdc'
      repeat (first | refine sp ?_ | (refine is_load ?_; refine ld ?_) | (refine is_store ?_; refine sr ?_) | (refine is_alloc ?_; refine al ?_) | (refine is_box ?_; refine bx ?_) | (refine isl_load ?_; refine ldl ?_) | (refine isl_store ?_; refine srl ?_) | (refine isl_alloc ?_; refine all' ?_) | (refine isl_box ?_; refine bxl ?_))
      refine gol_call rfl rfl (c_rfDump wc lo r VN AN (gN.ext hxc).rf hzN) ?_
      rintro _ wd ⟨hdd, hxd2⟩
      have hdd' := hdd
      obtain ⟨y1, y2, rfl, _, _⟩ := hdd'
      have hdc2 := hdc.ext hxd2
      replace hxd2 : Ext wN wd := hxc.trans hxd2
      refine ⟨hxd2, ?_⟩
      repeat (first | refine sp ?_ | (refine is_load ?_; refine ld ?_) | (refine is_store ?_; refine sr ?_) | (refine is_alloc ?_; refine al ?_) | (refine is_box ?_; refine bx ?_) | (refine isl_load ?_; refine ldl ?_) | (refine isl_store ?_; refine srl ?_) | (refine isl_alloc ?_; refine all' ?_) | (refine isl_box ?_; refine bxl ?_))
      refine gol_call rfl rfl (c_SameDump wd _ _ _ _ AN.dump hdc2 hdd hdl.1 hdl.2) ?_
      rintro _ we ⟨rfl, hxe⟩
      replace hxe : Ext wN we := hxd2.trans hxe
      refine ⟨hxe, ?_⟩
      repeat (first | refine sp ?_ | (refine is_load ?_; refine ld ?_) | (refine is_store ?_; refine sr ?_) | (refine is_alloc ?_; refine al ?_) | (refine is_box ?_; refine bx ?_) | (refine isl_load ?_; refine ldl ?_) | (refine isl_store ?_; refine srl ?_) | (refine isl_alloc ?_; refine all' ?_) | (refine isl_box ?_; refine bxl ?_))
      exact go_stop (G := Nat) (k + 1) rfl ⟨rfl, rfl, rfl, rfl, trivial⟩ ⟨hlt, qN, VN, AN, hN, gN.ext hxe, cN⟩ (by show l.length - (k + 1) < l.length - k; omega)
    by_cases e4 : s.kd % 6 = 4
    · repeat (first | refine sp ?_ | (refine is_load ?_; refine ld ?_) | (refine is_store ?_; refine sr ?_) | (refine is_alloc ?_; refine al ?_) | (refine is_box ?_; refine bx ?_) | (refine isl_load ?_; refine ldl ?_) | (refine isl_store ?_; refine srl ?_) | (refine isl_alloc ?_; refine all' ?_) | (refine isl_box ?_; refine bxl ?_))
      refine go_call rfl rfl (c_rfCounted w5 lo r V A i g.rf hi) ?_
      rintro _ w6 ⟨rfl, hx6⟩
      have hct := c.ct (by omega)
      by_cases hcnt : 0 < A.countOf i
      · have hu : A.used i = true := by
          cases e : A.used i with
          | true => rfl
          | false => unfold AR.countOf at hcnt; rw [e] at hcnt; simp at hcnt
        have h0 : i ≠ 0 := by have := (c.snd.wf.uf i hu).1; omega
        repeat (first | refine sp ?_ | (refine is_load ?_; refine ld ?_) | (refine is_store ?_; refine sr ?_) | (refine is_alloc ?_; refine al ?_) | (refine is_box ?_; refine bx ?_) | (refine isl_load ?_; refine ldl ?_) | (refine isl_store ?_; refine srl ?_) | (refine isl_alloc ?_; refine all' ?_) | (refine isl_box ?_; refine bxl ?_))
        refine go_call rfl rfl (c_rfEdges w6 lo r V A i (g.rf.ext hx6) hi) ?_
        rintro _ w6 ⟨rfl, rfl⟩
        repeat (first | refine sp ?_ | (refine is_load ?_; refine ld ?_) | (refine is_store ?_; refine sr ?_) | (refine is_alloc ?_; refine al ?_) | (refine is_box ?_; refine bx ?_) | (refine isl_load ?_; refine ldl ?_) | (refine isl_store ?_; refine srl ?_) | (refine isl_alloc ?_; refine all' ?_) | (refine isl_box ?_; refine bxl ?_))
        refine go_call rfl rfl (c_rfCounted w6 lo r V A i (g.rf.ext hx6) hi) ?_
        rintro _ w7 ⟨rfl, hx7⟩
        replace hx6 := hx6.trans hx7
        by_cases heq : (edges A i : Int) = A.countOf i
        · rw [heq]
          generalize A.countOf i = z at *
          repeat (first | refine sp ?_ | (refine is_load ?_; refine ld ?_) | (refine is_store ?_; refine sr ?_) | (refine is_alloc ?_; refine al ?_) | (refine is_box ?_; refine bx ?_) | (refine isl_load ?_; refine ldl ?_) | (refine isl_store ?_; refine srl ?_) | (refine isl_alloc ?_; refine all' ?_) | (refine isl_box ?_; refine bxl ?_))
          exact go_stop (G := Nat) (k + 1) rfl ⟨rfl, rfl, rfl, rfl, trivial⟩ ⟨hlt, q, V, A, h, g.ext hx6, c.mono (by omega)⟩ (by show l.length - (k + 1) < l.length - k; omega)
        · have g7 := g.ext hx6
          obtain ⟨sN, B, m, hN, hR, cN, hs', hm⟩ := c.rel (by omega) hu heq
          generalize A.countOf i = z at *
          repeat (first | refine sp ?_ | (refine is_load ?_; refine ld ?_) | (refine is_store ?_; refine sr ?_) | (refine is_alloc ?_; refine al ?_) | (refine is_box ?_; refine bx ?_) | (refine isl_load ?_; refine ldl ?_) | (refine isl_store ?_; refine srl ?_) | (refine isl_alloc ?_; refine all' ?_) | (refine isl_box ?_; refine bxl ?_))
          refine go_call rfl rfl (p_Release w7 lo p q A B i sN m g7.ar g7.los hi h0 hu hR hm hs') ?_
          rintro _ w8 ⟨rfl, q8, ha8, hq8, hf8⟩
          have g8 := g7.stA ha8 hq8 hf8
          repeat (first | refine sp ?_ | (refine is_load ?_; refine ld ?_) | (refine is_store ?_; refine sr ?_) | (refine is_alloc ?_; refine al ?_) | (refine is_box ?_; refine bx ?_) | (refine isl_load ?_; refine ldl ?_) | (refine isl_store ?_; refine srl ?_) | (refine isl_alloc ?_; refine all' ?_) | (refine isl_box ?_; refine bxl ?_))
          refine go_call rfl rfl (c_rfRelease w8 lo r V A B i sN m g8.rf g8.los hi (Or.inr hu) (by unfold one1; rw [if_neg h0]; exact hR) hs') ?_
          rintro _ w9 ⟨rfl, V9, hb9, G9⟩
          have g9 := g8.stB hb9 G9
          replace cN := cN.mono (show k ≤ k + 1 by omega)
          clear g7 g8 hb9 ha8
          repeat (first | refine sp ?_ | (refine is_load ?_; refine ld ?_) | (refine is_store ?_; refine sr ?_) | (refine is_alloc ?_; refine al ?_) | (refine is_box ?_; refine bx ?_) | (refine isl_load ?_; refine ldl ?_) | (refine isl_store ?_; refine srl ?_) | (refine isl_alloc ?_; refine all' ?_) | (refine isl_box ?_; refine bxl ?_))
          have gN := g9
          clear g
          obtain ⟨AN, hAN⟩ : ∃ x, x = B := ⟨_, rfl⟩
          rw [← hAN] at gN cN
          obtain ⟨qN, rfl⟩ : ∃ x, x = q8 := ⟨_, rfl⟩
          obtain ⟨VN, rfl⟩ : ∃ x, x = V9 := ⟨_, rfl⟩
          obtain ⟨wN, rfl⟩ : ∃ x, x = w9 := ⟨_, rfl⟩
          skip
          have hwfN := cN.snd.wf
          have hdl := dump_len5 hwfN
          have hzN : ∀ i, 1 ≤ i → i ≤ AN.cap → AN.countOf i = AN.cnt i := fun i hi _ => (cN.ct (by omega)).hz i hi
          have hrN := gN.rf.hr
          unfold rfC at hrN
          have hol := order_len hwfN
          have hcMN := hwfN.capM
          refine go_drawE (Fr (fun _ => False) wN) 0 Try.follows (by kernel_rfl) (by kernel_rfl) (by kernel_rfl) ((Fr.refl _ _).drewN 1) ?_
          repeat (first | refine sp ?_ | (refine is_load ?_; refine ld ?_) | (refine is_store ?_; refine sr ?_) | (refine is_alloc ?_; refine al ?_) | (refine is_box ?_; refine bx ?_) | (refine isl_load ?_; refine ldl ?_) | (refine isl_store ?_; refine srl ?_) | (refine isl_alloc ?_; refine all' ?_) | (refine isl_box ?_; refine bxl ?_))
          have hxd : Ext wN (wN.drewN 1) := (Fr.refl _ _).drewN 1
          refine gol_call rfl rfl (p_Free (wN.drewN 1) lo p qN AN (gN.ext hxd).ar) ?_
          rintro _ wa ⟨rfl, hxa⟩
          replace hxa : Ext wN wa := hxd.trans hxa
          refine ⟨hxa, ?_⟩
          have hra := hrN.ext hxa
          repeat (first | refine sp ?_ | (refine is_load ?_; refine ld ?_) | (refine is_store ?_; refine sr ?_) | (refine is_alloc ?_; refine al ?_) | (refine is_box ?_; refine bx ?_) | (refine isl_load ?_; refine ldl ?_) | (refine isl_store ?_; refine srl ?_) | (refine isl_alloc ?_; refine all' ?_) | (refine isl_box ?_; refine bxl ?_))
          have hco := c_rfOrder wa lo VN AN (gN.rf.hs.ext hxa) hwfN
          unfold rsC at hco
          refine gol_call rfl rfl hco ?_
          rintro fv wb ⟨hob, hxb⟩
          replace hxb : Ext wN wb := hxa.trans hxb
          refine ⟨hxb, ?_⟩
          obtain ⟨sf, cf, rfl, _, _⟩ := Own.slice hob
          have hrb := hrN.ext hxb
          rw [hol]
          repeat (first | refine sp ?_ | (refine is_load ?_; refine ld ?_) | (refine is_store ?_; refine sr ?_) | (refine is_alloc ?_; refine al ?_) | (refine is_box ?_; refine bx ?_) | (refine isl_load ?_; refine ldl ?_) | (refine isl_store ?_; refine srl ?_) | (refine isl_alloc ?_; refine all' ?_) | (refine isl_box ?_; refine bxl ?_))
          refine gol_call rfl rfl (p_Reads wb lo p qN AN (gN.ext hxb).ar) ?_
          rintro _ wb ⟨rfl, rfl⟩
          refine ⟨hxb, ?_⟩
          repeat (first | refine sp ?_ | (refine is_load ?_; refine ld ?_) | (refine is_store ?_; refine sr ?_) | (refine is_alloc ?_; refine al ?_) | (refine is_box ?_; refine bx ?_) | (refine isl_load ?_; refine ldl ?_) | (refine isl_store ?_; refine srl ?_) | (refine isl_alloc ?_; refine all' ?_) | (refine isl_box ?_; refine bxl ?_))
          refine gol_call rfl rfl (p_Dump wb lo p qN AN (gN.ext hxb).ar) ?_
          rintro _ wc ⟨hdc, hxc⟩
          have hdc' := hdc
          replace hxc : Ext wN wc := hxb.trans hxc
          refine ⟨hxc, ?_⟩
          obtain ⟨y1, y2, rfl, _, _⟩ := hdc'
          repeat (first | refine sp ?_ | (refine is_load ?_; refine ld ?_) | (refine is_store ?_; refine sr ?_) | (refine is_alloc ?_; refine al ?_) | (refine is_box ?_; refine bx ?_) | (refine isl_load ?_; refine ldl ?_) | (refine isl_store ?_; refine srl ?_) | (refine isl_alloc ?_; refine all' ?_) | (refine isl_box ?_; refine bxl ?_))
          refine gol_call rfl rfl (c_rfDump wc lo r VN AN (gN.ext hxc).rf hzN) ?_
          rintro _ wd ⟨hdd, hxd2⟩
          have hdd' := hdd
          obtain ⟨y1, y2, rfl, _, _⟩ := hdd'
          have hdc2 := hdc.ext hxd2
          replace hxd2 : Ext wN wd := hxc.trans hxd2
          refine ⟨hxd2, ?_⟩
          repeat (first | refine sp ?_ | (refine is_load ?_; refine ld ?_) | (refine is_store ?_; refine sr ?_) | (refine is_alloc ?_; refine al ?_) | (refine is_box ?_; refine bx ?_) | (refine isl_load ?_; refine ldl ?_) | (refine isl_store ?_; refine srl ?_) | (refine isl_alloc ?_; refine all' ?_) | (refine isl_box ?_; refine bxl ?_))
          refine gol_call rfl rfl (c_SameDump wd _ _ _ _ AN.dump hdc2 hdd hdl.1 hdl.2) ?_
          rintro _ we ⟨rfl, hxe⟩
          replace hxe : Ext wN we := hxd2.trans hxe
          refine ⟨hxe, ?_⟩
          repeat (first | refine sp ?_ | (refine is_load ?_; refine ld ?_) | (refine is_store ?_; refine sr ?_) | (refine is_alloc ?_; refine al ?_) | (refine is_box ?_; refine bx ?_) | (refine isl_load ?_; refine ldl ?_) | (refine isl_store ?_; refine srl ?_) | (refine isl_alloc ?_; refine all' ?_) | (refine isl_box ?_; refine bxl ?_))
          exact go_stop (G := Nat) (k + 1) rfl ⟨rfl, rfl, rfl, rfl, trivial⟩ ⟨hlt, qN, VN, AN, hN, gN.ext hxe, cN⟩ (by show l.length - (k + 1) < l.length - k; omega)
      · have hu : A.used i = false := by
          cases e : A.used i with
          | false => rfl
          | true => have := (hct.u i e).1; unfold AR.countOf at hcnt; rw [if_pos e] at hcnt; omega
        have g7 := g.ext hx6
        have cN := c.mono (show k ≤ k + 1 by omega)
        obtain ⟨hN, hhN⟩ : ∃ x, x = h := ⟨_, rfl⟩
        subst hhN
        generalize A.countOf i = z at *
        by_cases h0 : i = 0
        · subst h0
          repeat (first | refine sp ?_ | (refine is_load ?_; refine ld ?_) | (refine is_store ?_; refine sr ?_) | (refine is_alloc ?_; refine al ?_) | (refine is_box ?_; refine bx ?_) | (refine isl_load ?_; refine ldl ?_) | (refine isl_store ?_; refine srl ?_) | (refine isl_alloc ?_; refine all' ?_) | (refine isl_box ?_; refine bxl ?_))
          refine go_call rfl rfl (p_Release0 w6 p) ?_
          rintro _ w6 ⟨rfl, rfl⟩
          repeat (first | refine sp ?_ | (refine is_load ?_; refine ld ?_) | (refine is_store ?_; refine sr ?_) | (refine is_alloc ?_; refine al ?_) | (refine is_box ?_; refine bx ?_) | (refine isl_load ?_; refine ldl ?_) | (refine isl_store ?_; refine srl ?_) | (refine isl_alloc ?_; refine all' ?_) | (refine isl_box ?_; refine bxl ?_))
          refine go_call rfl rfl (c_rfRelease w6 lo r V A A 0 0 0 g7.rf g7.los (by omega) (Or.inl rfl) ⟨rfl, rfl, rfl⟩ (by omega)) ?_
          rintro _ w9 ⟨rfl, V9, hb9, G9⟩
          have g9 := g7.stB hb9 G9
          clear g7 hb9
          repeat (first | refine sp ?_ | (refine is_load ?_; refine ld ?_) | (refine is_store ?_; refine sr ?_) | (refine is_alloc ?_; refine al ?_) | (refine is_box ?_; refine bx ?_) | (refine isl_load ?_; refine ldl ?_) | (refine isl_store ?_; refine srl ?_) | (refine isl_alloc ?_; refine all' ?_) | (refine isl_box ?_; refine bxl ?_))
          have gN := g9
          clear g
          obtain ⟨AN, hAN⟩ : ∃ x, x = A := ⟨_, rfl⟩
          rw [← hAN] at gN cN
          obtain ⟨qN, rfl⟩ : ∃ x, x = q := ⟨_, rfl⟩
          obtain ⟨VN, rfl⟩ : ∃ x, x = V9 := ⟨_, rfl⟩
          obtain ⟨wN, rfl⟩ : ∃ x, x = w9 := ⟨_, rfl⟩
          skip
          have hwfN := cN.snd.wf
          have hdl := dump_len5 hwfN
          have hzN : ∀ i, 1 ≤ i → i ≤ AN.cap → AN.countOf i = AN.cnt i := fun i hi _ => (cN.ct (by omega)).hz i hi
          have hrN := gN.rf.hr
          unfold rfC at hrN
          have hol := order_len hwfN
          have hcMN := hwfN.capM
          refine go_drawE (Fr (fun _ => False) wN) 0 Try.follows (by kernel_rfl) (by kernel_rfl) (by kernel_rfl) ((Fr.refl _ _).drewN 1) ?_
          repeat (first | refine sp ?_ | (refine is_load ?_; refine ld ?_) | (refine is_store ?_; refine sr ?_) | (refine is_alloc ?_; refine al ?_) | (refine is_box ?_; refine bx ?_) | (refine isl_load ?_; refine ldl ?_) | (refine isl_store ?_; refine srl ?_) | (refine isl_alloc ?_; refine all' ?_) | (refine isl_box ?_; refine bxl ?_))
          have hxd : Ext wN (wN.drewN 1) := (Fr.refl _ _).drewN 1
          refine gol_call rfl rfl (p_Free (wN.drewN 1) lo p qN AN (gN.ext hxd).ar) ?_
          rintro _ wa ⟨rfl, hxa⟩
          replace hxa : Ext wN wa := hxd.trans hxa
          refine ⟨hxa, ?_⟩
          have hra := hrN.ext hxa
          repeat (first | refine sp ?_ | (refine is_load ?_; refine ld ?_) | (refine is_store ?_; refine sr ?_) | (refine is_alloc ?_; refine al ?_) | (refine is_box ?_; refine bx ?_) | (refine isl_load ?_; refine ldl ?_) | (refine isl_store ?_; refine srl ?_) | (refine isl_alloc ?_; refine all' ?_) | (refine isl_box ?_; refine bxl ?_))
          have hco := c_rfOrder wa lo VN AN (gN.rf.hs.ext hxa) hwfN
          unfold rsC at hco
          refine gol_call rfl rfl hco ?_
          rintro fv wb ⟨hob, hxb⟩
          replace hxb : Ext wN wb := hxa.trans hxb
          refine ⟨hxb, ?_⟩
          obtain ⟨sf, cf, rfl, _, _⟩ := Own.slice hob
          have hrb := hrN.ext hxb
          rw [hol]
          repeat (first | refine sp ?_ | (refine is_load ?_; refine ld ?_) | (refine is_store ?_; refine sr ?_) | (refine is_alloc ?_; refine al ?_) | (refine is_box ?_; refine bx ?_) | (refine isl_load ?_; refine ldl ?_) | (refine isl_store ?_; refine srl ?_) | (refine isl_alloc ?_; refine all' ?_) | (refine isl_box ?_; refine bxl ?_))
          refine gol_call rfl rfl (p_Reads wb lo p qN AN (gN.ext hxb).ar) ?_
          rintro _ wb ⟨rfl, rfl⟩
          refine ⟨hxb, ?_⟩
          repeat (first | refine sp ?_ | (refine is_load ?_; refine ld ?_) | (refine is_store ?_; refine sr ?_) | (refine is_alloc ?_; refine al ?_) | (refine is_box ?_; refine bx ?_) | (refine isl_load ?_; refine ldl ?_) | (refine isl_store ?_; refine srl ?_) | (refine isl_alloc ?_; refine all' ?_) | (refine isl_box ?_; refine bxl ?_))
          refine gol_call rfl rfl (p_Dump wb lo p qN AN (gN.ext hxb).ar) ?_
          rintro _ wc ⟨hdc, hxc⟩
          have hdc' := hdc
          replace hxc : Ext wN wc := hxb.trans hxc
          refine ⟨hxc, ?_⟩
          obtain ⟨y1, y2, rfl, _, _⟩ := hdc'
          repeat (first | refine sp ?_ | (refine is_load ?_; refine ld ?_) | (refine is_store ?_; refine sr ?_) | (refine is_alloc ?_; refine al ?_) | (refine is_box ?_; refine bx ?_) | (refine isl_load ?_; refine ldl ?_) | (refine isl_store ?_; refine srl ?_) | (refine isl_alloc ?_; refine all' ?_) | (refine isl_box ?_; refine bxl ?_))
          refine gol_call rfl rfl (c_rfDump wc lo r VN AN (gN.ext hxc).rf hzN) ?_
          rintro _ wd ⟨hdd, hxd2⟩
          have hdd' := hdd
          obtain ⟨y1, y2, rfl, _, _⟩ := hdd'
          have hdc2 := hdc.ext hxd2
          replace hxd2 : Ext wN wd := hxc.trans hxd2
          refine ⟨hxd2, ?_⟩
          repeat (first | refine sp ?_ | (refine is_load ?_; refine ld ?_) | (refine is_store ?_; refine sr ?_) | (refine is_alloc ?_; refine al ?_) | (refine is_box ?_; refine bx ?_) | (refine isl_load ?_; refine ldl ?_) | (refine isl_store ?_; refine srl ?_) | (refine isl_alloc ?_; refine all' ?_) | (refine isl_box ?_; refine bxl ?_))
          refine gol_call rfl rfl (c_SameDump wd _ _ _ _ AN.dump hdc2 hdd hdl.1 hdl.2) ?_
          rintro _ we ⟨rfl, hxe⟩
          replace hxe : Ext wN we := hxd2.trans hxe
          refine ⟨hxe, ?_⟩
          repeat (first | refine sp ?_ | (refine is_load ?_; refine ld ?_) | (refine is_store ?_; refine sr ?_) | (refine is_alloc ?_; refine al ?_) | (refine is_box ?_; refine bx ?_) | (refine isl_load ?_; refine ldl ?_) | (refine isl_store ?_; refine srl ?_) | (refine isl_alloc ?_; refine all' ?_) | (refine isl_box ?_; refine bxl ?_))
          exact go_stop (G := Nat) (k + 1) rfl ⟨rfl, rfl, rfl, rfl, trivial⟩ ⟨hlt, qN, VN, AN, hN, gN.ext hxe, cN⟩ (by show l.length - (k + 1) < l.length - k; omega)
        · repeat (first | refine sp ?_ | (refine is_load ?_; refine ld ?_) | (refine is_store ?_; refine sr ?_) | (refine is_alloc ?_; refine al ?_) | (refine is_box ?_; refine bx ?_) | (refine isl_load ?_; refine ldl ?_) | (refine isl_store ?_; refine srl ?_) | (refine isl_alloc ?_; refine all' ?_) | (refine isl_box ?_; refine bxl ?_))
          refine go_call rfl rfl (p_ReleaseBad w6 lo p q A i g7.ar hi h0 hu) ?_
          rintro _ w7 ⟨rfl, hx7⟩
          have g8 := g7.ext hx7
          repeat (first | refine sp ?_ | (refine is_load ?_; refine ld ?_) | (refine is_store ?_; refine sr ?_) | (refine is_alloc ?_; refine al ?_) | (refine is_box ?_; refine bx ?_) | (refine isl_load ?_; refine ldl ?_) | (refine isl_store ?_; refine srl ?_) | (refine isl_alloc ?_; refine all' ?_) | (refine isl_box ?_; refine bxl ?_))
          refine go_call rfl rfl (c_rfReleaseBad w7 lo r V A i g8.rf hi h0 hu) ?_
          rintro _ w8 ⟨rfl, hx8⟩
          have g9 := g8.ext hx8
          clear g7 g8
          repeat (first | refine sp ?_ | (refine is_load ?_; refine ld ?_) | (refine is_store ?_; refine sr ?_) | (refine is_alloc ?_; refine al ?_) | (refine is_box ?_; refine bx ?_) | (refine isl_load ?_; refine ldl ?_) | (refine isl_store ?_; refine srl ?_) | (refine isl_alloc ?_; refine all' ?_) | (refine isl_box ?_; refine bxl ?_))
          have gN := g9
          clear g
          obtain ⟨AN, hAN⟩ : ∃ x, x = A := ⟨_, rfl⟩
          rw [← hAN] at gN cN
          obtain ⟨qN, rfl⟩ : ∃ x, x = q := ⟨_, rfl⟩
          obtain ⟨VN, rfl⟩ : ∃ x, x = V := ⟨_, rfl⟩
          obtain ⟨wN, rfl⟩ : ∃ x, x = w8 := ⟨_, rfl⟩
          skip
          have hwfN := cN.snd.wf
          have hdl := dump_len5 hwfN
          have hzN : ∀ i, 1 ≤ i → i ≤ AN.cap → AN.countOf i = AN.cnt i := fun i hi _ => (cN.ct (by omega)).hz i hi
          have hrN := gN.rf.hr
          unfold rfC at hrN
          have hol := order_len hwfN
          have hcMN := hwfN.capM
          refine go_drawE (Fr (fun _ => False) wN) 0 Try.follows (by kernel_rfl) (by kernel_rfl) (by kernel_rfl) ((Fr.refl _ _).drewN 1) ?_
          repeat (first | refine sp ?_ | (refine is_load ?_; refine ld ?_) | (refine is_store ?_; refine sr ?_) | (refine is_alloc ?_; refine al ?_) | (refine is_box ?_; refine bx ?_) | (refine isl_load ?_; refine ldl ?_) | (refine isl_store ?_; refine srl ?_) | (refine isl_alloc ?_; refine all' ?_) | (refine isl_box ?_; refine bxl ?_))
          have hxd : Ext wN (wN.drewN 1) := (Fr.refl _ _).drewN 1
          refine gol_call rfl rfl (p_Free (wN.drewN 1) lo p qN AN (gN.ext hxd).ar) ?_
          rintro _ wa ⟨rfl, hxa⟩
          replace hxa : Ext wN wa := hxd.trans hxa
          refine ⟨hxa, ?_⟩
          have hra := hrN.ext hxa
          repeat (first | refine sp ?_ | (refine is_load ?_; refine ld ?_) | (refine is_store ?_; refine sr ?_) | (refine is_alloc ?_; refine al ?_) | (refine is_box ?_; refine bx ?_) | (refine isl_load ?_; refine ldl ?_) | (refine isl_store ?_; refine srl ?_) | (refine isl_alloc ?_; refine all' ?_) | (refine isl_box ?_; refine bxl ?_))
          have hco := c_rfOrder wa lo VN AN (gN.rf.hs.ext hxa) hwfN
          unfold rsC at hco
          refine gol_call rfl rfl hco ?_
          rintro fv wb ⟨hob, hxb⟩
          replace hxb : Ext wN wb := hxa.trans hxb
          refine ⟨hxb, ?_⟩
          obtain ⟨sf, cf, rfl, _, _⟩ := Own.slice hob
          have hrb := hrN.ext hxb
          rw [hol]
          repeat (first | refine sp ?_ | (refine is_load ?_; refine ld ?_) | (refine is_store ?_; refine sr ?_) | (refine is_alloc ?_; refine al ?_) | (refine is_box ?_; refine bx ?_) | (refine isl_load ?_; refine ldl ?_) | (refine isl_store ?_; refine srl ?_) | (refine isl_alloc ?_; refine all' ?_) | (refine isl_box ?_; refine bxl ?_))
          refine gol_call rfl rfl (p_Reads wb lo p qN AN (gN.ext hxb).ar) ?_
          rintro _ wb ⟨rfl, rfl⟩
          refine ⟨hxb, ?_⟩
          repeat (first | refine sp ?_ | (refine is_load ?_; refine ld ?_) | (refine is_store ?_; refine sr ?_) | (refine is_alloc ?_; refine al ?_) | (refine is_box ?_; refine bx ?_) | (refine isl_load ?_; refine ldl ?_) | (refine isl_store ?_; refine srl ?_) | (refine isl_alloc ?_; refine all' ?_) | (refine isl_box ?_; refine bxl ?_))
          refine gol_call rfl rfl (p_Dump wb lo p qN AN (gN.ext hxb).ar) ?_
          rintro _ wc ⟨hdc, hxc⟩
          have hdc' := hdc
          replace hxc : Ext wN wc := hxb.trans hxc
          refine ⟨hxc, ?_⟩
          obtain ⟨y1, y2, rfl, _, _⟩ := hdc'
          repeat (first | refine sp ?_ | (refine is_load ?_; refine ld ?_) | (refine is_store ?_; refine sr ?_) | (refine is_alloc ?_; refine al ?_) | (refine is_box ?_; refine bx ?_) | (refine isl_load ?_; refine ldl ?_) | (refine isl_store ?_; refine srl ?_) | (refine isl_alloc ?_; refine all' ?_) | (refine isl_box ?_; refine bxl ?_))
          refine gol_call rfl rfl (c_rfDump wc lo r VN AN (gN.ext hxc).rf hzN) ?_
          rintro _ wd ⟨hdd, hxd2⟩
          have hdd' := hdd
          obtain ⟨y1, y2, rfl, _, _⟩ := hdd'
          have hdc2 := hdc.ext hxd2
          replace hxd2 : Ext wN wd := hxc.trans hxd2
          refine ⟨hxd2, ?_⟩
          repeat (first | refine sp ?_ | (refine is_load ?_; refine ld ?_) | (refine is_store ?_; refine sr ?_) | (refine is_alloc ?_; refine al ?_) | (refine is_box ?_; refine bx ?_) | (refine isl_load ?_; refine ldl ?_) | (refine isl_store ?_; refine srl ?_) | (refine isl_alloc ?_; refine all' ?_) | (refine isl_box ?_; refine bxl ?_))
          refine gol_call rfl rfl (c_SameDump wd _ _ _ _ AN.dump hdc2 hdd hdl.1 hdl.2) ?_
          rintro _ we ⟨rfl, hxe⟩
          replace hxe : Ext wN we := hxd2.trans hxe
          refine ⟨hxe, ?_⟩
          repeat (first | refine sp ?_ | (refine is_load ?_; refine ld ?_) | (refine is_store ?_; refine sr ?_) | (refine is_alloc ?_; refine al ?_) | (refine is_box ?_; refine bx ?_) | (refine isl_load ?_; refine ldl ?_) | (refine isl_store ?_; refine srl ?_) | (refine isl_alloc ?_; refine all' ?_) | (refine isl_box ?_; refine bxl ?_))
          exact go_stop (G := Nat) (k + 1) rfl ⟨rfl, rfl, rfl, rfl, trivial⟩ ⟨hlt, qN, VN, AN, hN, gN.ext hxe, cN⟩ (by show l.length - (k + 1) < l.length - k; omega)
    by_cases e5 : s.kd % 6 = 5
    · repeat (first | refine sp ?_ | (refine is_load ?_; refine ld ?_) | (refine is_store ?_; refine sr ?_) | (refine is_alloc ?_; refine al ?_) | (refine is_box ?_; refine bx ?_) | (refine isl_load ?_; refine ldl ?_) | (refine isl_store ?_; refine srl ?_) | (refine isl_alloc ?_; refine all' ?_) | (refine isl_box ?_; refine bxl ?_))
      refine go_call rfl rfl (p_Node w5 lo p q A i g.ar hi) ?_
      rintro _ w6 ⟨rfl, ha6, hf6⟩
      have g6 := g.stA' ha6 hf6
      obtain ⟨N, hN⟩ : ∃ N, A.nodeOf i = N := ⟨_, rfl⟩
      rw [hN]
      unfold Nd.cells
      repeat (first | refine sp ?_ | (refine is_load ?_; refine ld ?_) | (refine is_store ?_; refine sr ?_) | (refine is_alloc ?_; refine al ?_) | (refine is_box ?_; refine bx ?_) | (refine isl_load ?_; refine ldl ?_) | (refine isl_store ?_; refine srl ?_) | (refine isl_alloc ?_; refine all' ?_) | (refine isl_box ?_; refine bxl ?_))
      refine go_name (F := fun w7 => At w7 w6.heap.size [.int .i64 N.key, .int .i64 N.val, .int .u32 (N.left : Int), .int .u32 (N.right : Int), .int .i64 N.size, .int .i64 N.sum, .int .i64 N.mn, .int .i64 N.mx] 50 ∧ Ext w6 w7) ⟨by (repeat (first | assumption | (refine At.new' (by (first | omega | (simp; done) | (simp; omega))) _ _) | apply At.alloc | apply At.drewN | apply At.setRow | (apply At.setRow_neF; first | assumption | (apply Ne.symm; assumption) | omega) | (apply At.extF; assumption))), by (repeat (first | exact Fr.refl _ _ | assumption | apply Fr.drewN | apply Fr.alloc | (apply Fr.transF; assumption) | (refine Fr.setRow ?_ _ (by first | exact Or.inr (by (first | omega | (simp; done) | (simp; omega))) | (exact Or.inl (by first | assumption | (simp; done)))))))⟩ ?_
      rintro w7 ⟨hn7, hx7⟩
      have g7 := g6.ext hx7
      refine go_call rfl rfl (c_rfNode w7 lo r V A i g7.rf hi) ?_
      rintro _ w8 ⟨rfl, hb8, hf8⟩
      have g8 := g7.stB' hb8 hf8
      have hrl := g7.rf.hr.lt
      have hpl := g6.ar.lt p g6.ar.fpp
      have hrl6 := g6.rf.hr.lt
      have hpr : p ≠ r := fun e => g8.dis r (Or.inl rfl) (e ▸ g8.ar.fpp)
      have hn8 := hn7.fr hf8 (by omega)
      have hl8 := hf8.size
      have hl7 := hx7.size
      have hn8l := hn8.lt
      rw [hN]
      unfold Nd.cells
      repeat (first | refine sp ?_ | (refine is_load ?_; refine ld ?_) | (refine is_store ?_; refine sr ?_) | (refine is_alloc ?_; refine al ?_) | (refine is_box ?_; refine bx ?_) | (refine isl_load ?_; refine ldl ?_) | (refine isl_store ?_; refine srl ?_) | (refine isl_alloc ?_; refine all' ?_) | (refine isl_box ?_; refine bxl ?_))
      refine go_name (F := fun w9 => At w9 w8.heap.size [.int .i64 N.key, .int .i64 N.val, .int .u32 (N.left : Int), .int .u32 (N.right : Int), .int .i64 N.size, .int .i64 N.sum, .int .i64 N.mn, .int .i64 N.mx] 50 ∧ At w9 w6.heap.size [.int .i64 N.key, .int .i64 N.val, .int .u32 (N.left : Int), .int .u32 (N.right : Int), .int .i64 N.size, .int .i64 N.sum, .int .i64 N.mn, .int .i64 N.mx] 50 ∧ Ext w8 w9) ⟨by (repeat (first | assumption | (refine At.new' (by (first | omega | (simp; done) | (simp; omega))) _ _) | apply At.alloc | apply At.drewN | apply At.setRow | (apply At.setRow_neF; first | assumption | (apply Ne.symm; assumption) | omega) | (apply At.extF; assumption))), by (repeat (first | assumption | (refine At.new' (by (first | omega | (simp; done) | (simp; omega))) _ _) | apply At.alloc | apply At.drewN | apply At.setRow | (apply At.setRow_neF; first | assumption | (apply Ne.symm; assumption) | omega) | (apply At.extF; assumption))), by (repeat (first | exact Fr.refl _ _ | assumption | apply Fr.drewN | apply Fr.alloc | (apply Fr.transF; assumption) | (refine Fr.setRow ?_ _ (by first | exact Or.inr (by (first | omega | (simp; done) | (simp; omega))) | (exact Or.inl (by first | assumption | (simp; done)))))))⟩ ?_
      rintro w9 ⟨hm9, hn9, hx9⟩
      have g9 := g8.ext hx9
      have hr9 := g9.rf.hr
      unfold rfC at hr9
      refine go_drawE (fun w' => ∃ R : Int, At w' r [.int .i64 ((A.read i).cap : Int), V.sv, .int .i64 (((A.read i).fresh + 1 : Nat) : Int), V.gv, V.ov, .slice (some ⟨V.nb, 0, none⟩) (A.read i).cap (A.read i).cap, .slice (some ⟨V.cb, 0, none⟩) (A.read i).cap (A.read i).cap, .int .u64 R] 85 ∧ Fr (fun b => b = p ∨ b = r) w9 w') 0 Try.follows (by kernel_rfl) (by kernel_rfl) (by kernel_rfl) ⟨_, hr9.drewN 1, (Fr.refl _ _).drewN 1⟩ ?_
      refine gol_load rfl rfl (ldD_of fun w' f => ld_part (At.fr hn9 f.choose_spec.2 (by omega)) rfl rfl) ?_
      refine gol_load rfl rfl (ldD_of fun w' f => ld_part (At.fr hm9 f.choose_spec.2 (by omega)) rfl rfl) ?_
      repeat (first | refine sp ?_ | (refine is_load ?_; refine ld ?_) | (refine is_store ?_; refine sr ?_) | (refine is_alloc ?_; refine al ?_) | (refine is_box ?_; refine bx ?_) | (refine isl_load ?_; refine ldl ?_) | (refine isl_store ?_; refine srl ?_) | (refine isl_alloc ?_; refine all' ?_) | (refine isl_box ?_; refine bxl ?_))
      refine go_as 162 (u' := .bool true) rfl (by simp [eqL]) ?_
      repeat (first | refine sp ?_ | (refine is_load ?_; refine ld ?_) | (refine is_store ?_; refine sr ?_) | (refine is_alloc ?_; refine al ?_) | (refine is_box ?_; refine bx ?_) | (refine isl_load ?_; refine ldl ?_) | (refine isl_store ?_; refine srl ?_) | (refine isl_alloc ?_; refine all' ?_) | (refine isl_box ?_; refine bxl ?_))
      refine go_as 167 (u' := .bool true) rfl (by simp) ?_
      repeat (first | refine sp ?_ | (refine is_load ?_; refine ld ?_) | (refine is_store ?_; refine sr ?_) | (refine is_alloc ?_; refine al ?_) | (refine is_box ?_; refine bx ?_) | (refine isl_load ?_; refine ldl ?_) | (refine isl_store ?_; refine srl ?_) | (refine isl_alloc ?_; refine all' ?_) | (refine isl_box ?_; refine bxl ?_))
      have gd := g9.ext (show Ext w9 (w9.drewN 1) from (Fr.refl _ _).drewN 1)
      have fd : Fr (fun b => b = p ∨ b = r) w9 (w9.drewN 1) := (Fr.refl _ _).drewN 1
      refine gol_call rfl rfl (p_Size (w9.drewN 1) lo p q (A.read i) j gd.ar hj) ?_
      rintro _ wa ⟨rfl, haa, hfa⟩
      have ga := gd.stA' haa hfa
      have fa : Fr (fun b => b = p ∨ b = r) w9 wa := fd.trans (hfa.mono fun b e => Or.inl e)
      have hra := ga.rf.hr
      unfold rfC at hra
      refine ⟨⟨_, hra, fa⟩, ?_⟩
      repeat (first | refine sp ?_ | (refine is_load ?_; refine ld ?_) | (refine is_store ?_; refine sr ?_) | (refine is_alloc ?_; refine al ?_) | (refine is_box ?_; refine bx ?_) | (refine isl_load ?_; refine ldl ?_) | (refine isl_store ?_; refine srl ?_) | (refine isl_alloc ?_; refine all' ?_) | (refine isl_box ?_; refine bxl ?_))
      refine gol_call rfl rfl (c_rfSize wa lo r V (A.read i) j ga.rf hj) ?_
      rintro _ wb ⟨rfl, hbb, hfb⟩
      have gb := ga.stB' hbb hfb
      have fb : Fr (fun b => b = p ∨ b = r) w9 wb := fa.trans (hfb.mono fun b e => Or.inr e)
      obtain ⟨AN, hAN⟩ : ∃ x, x = (A.read i).read j := ⟨_, rfl⟩
      have hANc : AN.cap = (A.read i).cap ∧ AN.fresh = (A.read i).fresh := by rw [hAN]; unfold AR.read; split <;> split <;> exact ⟨rfl, rfl⟩
      have cN := ((c.read i).read j).mono (show k ≤ k + 1 by omega)
      rw [← hAN] at gb cN
      have hrb := gb.rf.hr
      unfold rfC at hrb
      rw [hANc.1, hANc.2] at hrb
      refine ⟨⟨_, hrb, fb⟩, ?_⟩
      generalize (A.read i).sizeOf j = z1
      repeat (first | refine sp ?_ | (refine is_load ?_; refine ld ?_) | (refine is_store ?_; refine sr ?_) | (refine is_alloc ?_; refine al ?_) | (refine is_box ?_; refine bx ?_) | (refine isl_load ?_; refine ldl ?_) | (refine isl_store ?_; refine srl ?_) | (refine isl_alloc ?_; refine all' ?_) | (refine isl_box ?_; refine bxl ?_))
      refine go_as 176 (u' := .bool true) rfl (by simp) ?_
      repeat (first | refine sp ?_ | (refine is_load ?_; refine ld ?_) | (refine is_store ?_; refine sr ?_) | (refine is_alloc ?_; refine al ?_) | (refine is_box ?_; refine bx ?_) | (refine isl_load ?_; refine ldl ?_) | (refine isl_store ?_; refine srl ?_) | (refine isl_alloc ?_; refine all' ?_) | (refine isl_box ?_; refine bxl ?_))
      refine gol_call rfl rfl (p_Count wb lo p q AN i gb.ar hi) ?_
      rintro _ wc ⟨rfl, hxc⟩
      have gc := gb.ext hxc
      have hrc := hrb.ext hxc
      have fc := fb.trans (Fr.of_ext (S := fun b => b = p ∨ b = r) hxc)
      refine ⟨⟨_, hrc, fc⟩, ?_⟩
      repeat (first | refine sp ?_ | (refine is_load ?_; refine ld ?_) | (refine is_store ?_; refine sr ?_) | (refine is_alloc ?_; refine al ?_) | (refine is_box ?_; refine bx ?_) | (refine isl_load ?_; refine ldl ?_) | (refine isl_store ?_; refine srl ?_) | (refine isl_alloc ?_; refine all' ?_) | (refine isl_box ?_; refine bxl ?_))
      refine gol_call rfl rfl (c_rfCounted wc lo r V AN i gc.rf hi) ?_
      rintro _ wd ⟨rfl, hxd2⟩
      have gd2 := gc.ext hxd2
      have hrd := hrc.ext hxd2
      have fd2 := fc.trans (Fr.of_ext (S := fun b => b = p ∨ b = r) hxd2)
      refine ⟨⟨_, hrd, fd2⟩, ?_⟩
      generalize AN.countOf i = z2
      repeat (first | refine sp ?_ | (refine is_load ?_; refine ld ?_) | (refine is_store ?_; refine sr ?_) | (refine is_alloc ?_; refine al ?_) | (refine is_box ?_; refine bx ?_) | (refine isl_load ?_; refine ldl ?_) | (refine isl_store ?_; refine srl ?_) | (refine isl_alloc ?_; refine all' ?_) | (refine isl_box ?_; refine bxl ?_))
      refine go_as 185 (u' := .bool true) rfl (by simp) ?_
      repeat (first | refine sp ?_ | (refine is_load ?_; refine ld ?_) | (refine is_store ?_; refine sr ?_) | (refine is_alloc ?_; refine al ?_) | (refine is_box ?_; refine bx ?_) | (refine isl_load ?_; refine ldl ?_) | (refine isl_store ?_; refine srl ?_) | (refine isl_alloc ?_; refine all' ?_) | (refine isl_box ?_; refine bxl ?_))
      refine gol_call rfl rfl (p_Generation wd lo p q AN j gd2.ar hj) ?_
      rintro _ we ⟨rfl, hxe⟩
      have ge := gd2.ext hxe
      have hre := hrd.ext hxe
      have fe := fd2.trans (Fr.of_ext (S := fun b => b = p ∨ b = r) hxe)
      refine ⟨⟨_, hre, fe⟩, ?_⟩
      repeat (first | refine sp ?_ | (refine is_load ?_; refine ld ?_) | (refine is_store ?_; refine sr ?_) | (refine is_alloc ?_; refine al ?_) | (refine is_box ?_; refine bx ?_) | (refine isl_load ?_; refine ldl ?_) | (refine isl_store ?_; refine srl ?_) | (refine isl_alloc ?_; refine all' ?_) | (refine isl_box ?_; refine bxl ?_))
      refine gol_load (v := .agg ⟨[.int .i64 ((A.read i).cap : Int), V.sv, .int .i64 (((A.read i).fresh + 1 : Nat) : Int), V.gv, V.ov]⟩) rfl rfl (ldD_of fun w' f => ld_part f.choose_spec.1 rfl rfl) ?_
      repeat (first | refine sp ?_ | (refine is_load ?_; refine ld ?_) | (refine is_store ?_; refine sr ?_) | (refine is_alloc ?_; refine al ?_) | (refine is_box ?_; refine bx ?_) | (refine isl_load ?_; refine ldl ?_) | (refine isl_store ?_; refine srl ?_) | (refine isl_alloc ?_; refine all' ?_) | (refine isl_box ?_; refine bxl ?_))
      have hcall := c_rsGeneration we lo V AN j ge.rf.hg ge.rf.wf cN.g0 hj
      unfold rsC at hcall
      rw [hANc.1, hANc.2] at hcall
      refine gol_call rfl rfl hcall ?_
      rintro _ wf ⟨rfl, hxf⟩
      have gf := ge.ext hxf
      refine ⟨⟨_, hre.ext hxf, fe.trans (Fr.of_ext (S := fun b => b = p ∨ b = r) hxf)⟩, ?_⟩
      generalize AN.genOf j = z3
      repeat (first | refine sp ?_ | (refine is_load ?_; refine ld ?_) | (refine is_store ?_; refine sr ?_) | (refine is_alloc ?_; refine al ?_) | (refine is_box ?_; refine bx ?_) | (refine isl_load ?_; refine ldl ?_) | (refine isl_store ?_; refine srl ?_) | (refine isl_alloc ?_; refine all' ?_) | (refine isl_box ?_; refine bxl ?_))
      refine go_as 13 (u' := .bool true) rfl (by simp) ?_
      obtain ⟨hN, hhN⟩ : ∃ x, x = h := ⟨_, rfl⟩
      subst hhN
      have gN := gf
      clear g
      obtain ⟨qN, rfl⟩ : ∃ x, x = q := ⟨_, rfl⟩
      obtain ⟨VN, rfl⟩ : ∃ x, x = V := ⟨_, rfl⟩
      obtain ⟨wN, rfl⟩ : ∃ x, x = wf := ⟨_, rfl⟩
      repeat (first | refine sp ?_ | (refine is_load ?_; refine ld ?_) | (refine is_store ?_; refine sr ?_) | (refine is_alloc ?_; refine al ?_) | (refine is_box ?_; refine bx ?_) | (refine isl_load ?_; refine ldl ?_) | (refine isl_store ?_; refine srl ?_) | (refine isl_alloc ?_; refine all' ?_) | (refine isl_box ?_; refine bxl ?_))
      skip
      have hwfN := cN.snd.wf
      have hdl := dump_len5 hwfN
      have hzN : ∀ i, 1 ≤ i → i ≤ AN.cap → AN.countOf i = AN.cnt i := fun i hi _ => (cN.ct (by omega)).hz i hi
      have hrN := gN.rf.hr
      unfold rfC at hrN
      have hol := order_len hwfN
      have hcMN := hwfN.capM
      refine go_drawE (Fr (fun _ => False) wN) 0 Try.follows (by kernel_rfl) (by kernel_rfl) (by kernel_rfl) ((Fr.refl _ _).drewN 1) ?_
      repeat (first | refine sp ?_ | (refine is_load ?_; refine ld ?_) | (refine is_store ?_; refine sr ?_) | (refine is_alloc ?_; refine al ?_) | (refine is_box ?_; refine bx ?_) | (refine isl_load ?_; refine ldl ?_) | (refine isl_store ?_; refine srl ?_) | (refine isl_alloc ?_; refine all' ?_) | (refine isl_box ?_; refine bxl ?_))
      have hxd : Ext wN (wN.drewN 1) := (Fr.refl _ _).drewN 1
      refine gol_call rfl rfl (p_Free (wN.drewN 1) lo p qN AN (gN.ext hxd).ar) ?_
      rintro _ wa ⟨rfl, hxa⟩
      replace hxa : Ext wN wa := hxd.trans hxa
      refine ⟨hxa, ?_⟩
      have hra := hrN.ext hxa
      repeat (first | refine sp ?_ | (refine is_load ?_; refine ld ?_) | (refine is_store ?_; refine sr ?_) | (refine is_alloc ?_; refine al ?_) | (refine is_box ?_; refine bx ?_) | (refine isl_load ?_; refine ldl ?_) | (refine isl_store ?_; refine srl ?_) | (refine isl_alloc ?_; refine all' ?_) | (refine isl_box ?_; refine bxl ?_))
      have hco := c_rfOrder wa lo VN AN (gN.rf.hs.ext hxa) hwfN
      unfold rsC at hco
      refine gol_call rfl rfl hco ?_
      rintro fv wb ⟨hob, hxb⟩
      replace hxb : Ext wN wb := hxa.trans hxb
      refine ⟨hxb, ?_⟩
      obtain ⟨sf, cf, rfl, _, _⟩ := Own.slice hob
      have hrb := hrN.ext hxb
      rw [hol]
      repeat (first | refine sp ?_ | (refine is_load ?_; refine ld ?_) | (refine is_store ?_; refine sr ?_) | (refine is_alloc ?_; refine al ?_) | (refine is_box ?_; refine bx ?_) | (refine isl_load ?_; refine ldl ?_) | (refine isl_store ?_; refine srl ?_) | (refine isl_alloc ?_; refine all' ?_) | (refine isl_box ?_; refine bxl ?_))
      refine gol_call rfl rfl (p_Reads wb lo p qN AN (gN.ext hxb).ar) ?_
      rintro _ wb ⟨rfl, rfl⟩
      refine ⟨hxb, ?_⟩
      repeat (first | refine sp ?_ | (refine is_load ?_; refine ld ?_) | (refine is_store ?_; refine sr ?_) | (refine is_alloc ?_; refine al ?_) | (refine is_box ?_; refine bx ?_) | (refine isl_load ?_; refine ldl ?_) | (refine isl_store ?_; refine srl ?_) | (refine isl_alloc ?_; refine all' ?_) | (refine isl_box ?_; refine bxl ?_))
      refine gol_call rfl rfl (p_Dump wb lo p qN AN (gN.ext hxb).ar) ?_
      rintro _ wc ⟨hdc, hxc⟩
      have hdc' := hdc
      replace hxc : Ext wN wc := hxb.trans hxc
      refine ⟨hxc, ?_⟩
      obtain ⟨y1, y2, rfl, _, _⟩ := hdc'
      repeat (first | refine sp ?_ | (refine is_load ?_; refine ld ?_) | (refine is_store ?_; refine sr ?_) | (refine is_alloc ?_; refine al ?_) | (refine is_box ?_; refine bx ?_) | (refine isl_load ?_; refine ldl ?_) | (refine isl_store ?_; refine srl ?_) | (refine isl_alloc ?_; refine all' ?_) | (refine isl_box ?_; refine bxl ?_))
      refine gol_call rfl rfl (c_rfDump wc lo r VN AN (gN.ext hxc).rf hzN) ?_
      rintro _ wd ⟨hdd, hxd2⟩
      have hdd' := hdd
      obtain ⟨y1, y2, rfl, _, _⟩ := hdd'
      have hdc2 := hdc.ext hxd2
      replace hxd2 : Ext wN wd := hxc.trans hxd2
      refine ⟨hxd2, ?_⟩
      repeat (first | refine sp ?_ | (refine is_load ?_; refine ld ?_) | (refine is_store ?_; refine sr ?_) | (refine is_alloc ?_; refine al ?_) | (refine is_box ?_; refine bx ?_) | (refine isl_load ?_; refine ldl ?_) | (refine isl_store ?_; refine srl ?_) | (refine isl_alloc ?_; refine all' ?_) | (refine isl_box ?_; refine bxl ?_))
      refine gol_call rfl rfl (c_SameDump wd _ _ _ _ AN.dump hdc2 hdd hdl.1 hdl.2) ?_
      rintro _ we ⟨rfl, hxe⟩
      replace hxe : Ext wN we := hxd2.trans hxe
      refine ⟨hxe, ?_⟩
      repeat (first | refine sp ?_ | (refine is_load ?_; refine ld ?_) | (refine is_store ?_; refine sr ?_) | (refine is_alloc ?_; refine al ?_) | (refine is_box ?_; refine bx ?_) | (refine isl_load ?_; refine ldl ?_) | (refine isl_store ?_; refine srl ?_) | (refine isl_alloc ?_; refine all' ?_) | (refine isl_box ?_; refine bxl ?_))
      exact go_stop (G := Nat) (k + 1) rfl ⟨rfl, rfl, rfl, rfl, trivial⟩ ⟨hlt, qN, VN, AN, hN, gN.ext hxe, cN⟩ (by show l.length - (k + 1) < l.length - k; omega)
    · repeat (first | refine sp ?_ | (refine is_load ?_; refine ld ?_) | (refine is_store ?_; refine sr ?_) | (refine is_alloc ?_; refine al ?_) | (refine is_box ?_; refine bx ?_) | (refine isl_load ?_; refine ldl ?_) | (refine isl_store ?_; refine srl ?_) | (refine isl_alloc ?_; refine all' ?_) | (refine isl_box ?_; refine bxl ?_))
      refine go_call rfl rfl (p_Make w5 lo p q A s.key s.val i j g.ar hi hj) ?_
      rintro _ w6 ⟨rfl, q6, ha6, hq6, hf6⟩
      have g6 := g.stA ha6 hq6 hf6
      have hs6 := hs5.fr hf6 (g.ar.apart hs5 (by decide) (by decide) (by decide) (by decide) (by decide) (by decide))
      repeat (first | refine sp ?_ | (refine is_load ?_; refine ld ?_) | (refine is_store ?_; refine sr ?_) | (refine is_alloc ?_; refine al ?_) | (refine is_box ?_; refine bx ?_) | (refine isl_load ?_; refine ldl ?_) | (refine isl_store ?_; refine srl ?_) | (refine isl_alloc ?_; refine all' ?_) | (refine isl_box ?_; refine bxl ?_))
      refine go_call rfl rfl (c_rfMake w6 lo r V A s.key s.val i j g6.rf g6.los hi hj) ?_
      rintro _ w7 ⟨rfl, V7, hb7, G7⟩
      have g7 := g6.stB hb7 G7
      obtain ⟨hN, cN⟩ := c.make (by omega) s.key s.val i j
      clear g6 hb7 ha6
      repeat (first | refine sp ?_ | (refine is_load ?_; refine ld ?_) | (refine is_store ?_; refine sr ?_) | (refine is_alloc ?_; refine al ?_) | (refine is_box ?_; refine bx ?_) | (refine isl_load ?_; refine ldl ?_) | (refine isl_store ?_; refine srl ?_) | (refine isl_alloc ?_; refine all' ?_) | (refine isl_box ?_; refine bxl ?_))
      have gN := g7
      clear g
      obtain ⟨AN, hAN⟩ : ∃ x, x = A.make s.key s.val i j := ⟨_, rfl⟩
      rw [← hAN] at gN cN
      obtain ⟨qN, rfl⟩ : ∃ x, x = q6 := ⟨_, rfl⟩
      obtain ⟨VN, rfl⟩ : ∃ x, x = V7 := ⟨_, rfl⟩
      obtain ⟨wN, rfl⟩ : ∃ x, x = w7 := ⟨_, rfl⟩
      skip
      have hwfN := cN.snd.wf
      have hdl := dump_len5 hwfN
      have hzN : ∀ i, 1 ≤ i → i ≤ AN.cap → AN.countOf i = AN.cnt i := fun i hi _ => (cN.ct (by omega)).hz i hi
      have hrN := gN.rf.hr
      unfold rfC at hrN
      have hol := order_len hwfN
      have hcMN := hwfN.capM
      refine go_drawE (Fr (fun _ => False) wN) 0 Try.follows (by kernel_rfl) (by kernel_rfl) (by kernel_rfl) ((Fr.refl _ _).drewN 1) ?_
      repeat (first | refine sp ?_ | (refine is_load ?_; refine ld ?_) | (refine is_store ?_; refine sr ?_) | (refine is_alloc ?_; refine al ?_) | (refine is_box ?_; refine bx ?_) | (refine isl_load ?_; refine ldl ?_) | (refine isl_store ?_; refine srl ?_) | (refine isl_alloc ?_; refine all' ?_) | (refine isl_box ?_; refine bxl ?_))
      have hxd : Ext wN (wN.drewN 1) := (Fr.refl _ _).drewN 1
      refine gol_call rfl rfl (p_Free (wN.drewN 1) lo p qN AN (gN.ext hxd).ar) ?_
      rintro _ wa ⟨rfl, hxa⟩
      replace hxa : Ext wN wa := hxd.trans hxa
      refine ⟨hxa, ?_⟩
      have hra := hrN.ext hxa
      repeat (first | refine sp ?_ | (refine is_load ?_; refine ld ?_) | (refine is_store ?_; refine sr ?_) | (refine is_alloc ?_; refine al ?_) | (refine is_box ?_; refine bx ?_) | (refine isl_load ?_; refine ldl ?_) | (refine isl_store ?_; refine srl ?_) | (refine isl_alloc ?_; refine all' ?_) | (refine isl_box ?_; refine bxl ?_))
      have hco := c_rfOrder wa lo VN AN (gN.rf.hs.ext hxa) hwfN
      unfold rsC at hco
      refine gol_call rfl rfl hco ?_
      rintro fv wb ⟨hob, hxb⟩
      replace hxb : Ext wN wb := hxa.trans hxb
      refine ⟨hxb, ?_⟩
      obtain ⟨sf, cf, rfl, _, _⟩ := Own.slice hob
      have hrb := hrN.ext hxb
      rw [hol]
      repeat (first | refine sp ?_ | (refine is_load ?_; refine ld ?_) | (refine is_store ?_; refine sr ?_) | (refine is_alloc ?_; refine al ?_) | (refine is_box ?_; refine bx ?_) | (refine isl_load ?_; refine ldl ?_) | (refine isl_store ?_; refine srl ?_) | (refine isl_alloc ?_; refine all' ?_) | (refine isl_box ?_; refine bxl ?_))
      refine gol_call rfl rfl (p_Reads wb lo p qN AN (gN.ext hxb).ar) ?_
      rintro _ wb ⟨rfl, rfl⟩
      refine ⟨hxb, ?_⟩
      repeat (first | refine sp ?_ | (refine is_load ?_; refine ld ?_) | (refine is_store ?_; refine sr ?_) | (refine is_alloc ?_; refine al ?_) | (refine is_box ?_; refine bx ?_) | (refine isl_load ?_; refine ldl ?_) | (refine isl_store ?_; refine srl ?_) | (refine isl_alloc ?_; refine all' ?_) | (refine isl_box ?_; refine bxl ?_))
      refine gol_call rfl rfl (p_Dump wb lo p qN AN (gN.ext hxb).ar) ?_
      rintro _ wc ⟨hdc, hxc⟩
      have hdc' := hdc
      replace hxc : Ext wN wc := hxb.trans hxc
      refine ⟨hxc, ?_⟩
      obtain ⟨y1, y2, rfl, _, _⟩ := hdc'
      repeat (first | refine sp ?_ | (refine is_load ?_; refine ld ?_) | (refine is_store ?_; refine sr ?_) | (refine is_alloc ?_; refine al ?_) | (refine is_box ?_; refine bx ?_) | (refine isl_load ?_; refine ldl ?_) | (refine isl_store ?_; refine srl ?_) | (refine isl_alloc ?_; refine all' ?_) | (refine isl_box ?_; refine bxl ?_))
      refine gol_call rfl rfl (c_rfDump wc lo r VN AN (gN.ext hxc).rf hzN) ?_
      rintro _ wd ⟨hdd, hxd2⟩
      have hdd' := hdd
      obtain ⟨y1, y2, rfl, _, _⟩ := hdd'
      have hdc2 := hdc.ext hxd2
      replace hxd2 : Ext wN wd := hxc.trans hxd2
      refine ⟨hxd2, ?_⟩
      repeat (first | refine sp ?_ | (refine is_load ?_; refine ld ?_) | (refine is_store ?_; refine sr ?_) | (refine is_alloc ?_; refine al ?_) | (refine is_box ?_; refine bx ?_) | (refine isl_load ?_; refine ldl ?_) | (refine isl_store ?_; refine srl ?_) | (refine isl_alloc ?_; refine all' ?_) | (refine isl_box ?_; refine bxl ?_))
      refine gol_call rfl rfl (c_SameDump wd _ _ _ _ AN.dump hdc2 hdd hdl.1 hdl.2) ?_
      rintro _ we ⟨rfl, hxe⟩
      replace hxe : Ext wN we := hxd2.trans hxe
      refine ⟨hxe, ?_⟩
      repeat (first | refine sp ?_ | (refine is_load ?_; refine ld ?_) | (refine is_store ?_; refine sr ?_) | (refine is_alloc ?_; refine al ?_) | (refine is_box ?_; refine bx ?_) | (refine isl_load ?_; refine ldl ?_) | (refine isl_store ?_; refine srl ?_) | (refine isl_alloc ?_; refine all' ?_) | (refine isl_box ?_; refine bxl ?_))
      exact go_stop (G := Nat) (k + 1) rfl ⟨rfl, rfl, rfl, rfl, trivial⟩ ⟨hlt, qN, VN, AN, hN, gN.ext hxe, cN⟩ (by show l.length - (k + 1) < l.length - k; omega)
  · obtain rfl : k = l.length := by omega
    repeat (first | refine sp ?_ | (refine is_load ?_; refine ld ?_) | (refine is_store ?_; refine sr ?_) | (refine is_alloc ?_; refine al ?_) | (refine is_box ?_; refine bx ?_) | (refine isl_load ?_; refine ldl ?_) | (refine isl_store ?_; refine srl ?_) | (refine isl_alloc ?_; refine all' ?_) | (refine isl_box ?_; refine bxl ?_))
    exact go_ret1 rfl rfl ⟨_, rfl, rfl, hx4⟩

end Go.Proofs.Ytapocbahkeoeoaa
