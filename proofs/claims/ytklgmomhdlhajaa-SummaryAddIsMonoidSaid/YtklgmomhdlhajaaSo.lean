/-
  The summaries of lists; the example of the chapter.
-/
import Derived.Test.YtklgmomhdlhajaaSv
set_option linter.unusedVariables false
namespace Go.Proofs.Ytklgmomhdlhajaa
open Go.Vc

theorem smy_snoc {l : List (Int × Int)} (h : InE l) {i : Nat} (hi : i < l.length) : smy ((l.take (i + 1)).map (·.2)) = (smy ((l.take i).map (·.2))).add (Sm.one l[i].2) := by
  rw [List.take_succ_eq_append_getElem hi, List.map_append, smy_append]
  · rw [show List.map (fun x => x.2) [l[i]] = [l[i].2] from rfl, smy_one (h _ (List.getElem_mem hi)).2]
  · intro u hu
    obtain ⟨e, he, rfl⟩ := List.mem_map.1 hu
    exact (h e (List.mem_of_mem_take he)).2
  · intro u hu
    simp at hu
    subst hu
    exact (h _ (List.getElem_mem hi)).2

set_option maxHeartbeats 2000000 in
theorem c_SOf (w : World) (hi : Nat) (lv : Value) (l : List (Int × Int)) (hr : RdU w hi lv entC l) (hh : hi ≤ w.heap.size) (he : InE l) (hlen : l.length ≤ 1000000) :
    Calls Try.prog 24 [lv].toArray w (Ret fun v w' => v = .agg ⟨(smy (l.map (·.2))).cells⟩ ∧ Ext w w') := by
  have hr0 := hr
  obtain ⟨sa, cap, rfl, hlc, _, _⟩ := hr0
  refine calls_go Try.func24 rfl Try.ntmps24 (Nat.le_of_ble_eq_true rfl) ?_
  repeat (first | refine sp ?_ | (refine is_load ?_; refine ld ?_) | (refine is_store ?_; refine sr ?_) | (refine is_alloc ?_; refine al ?_) | (refine is_box ?_; refine bx ?_) | (refine isl_load ?_; refine ldl ?_) | (refine isl_store ?_; refine srl ?_) | (refine isl_alloc ?_; refine all' ?_) | (refine isl_box ?_; refine bxl ?_) | refine dr Try.follows ?_)
  refine go_loop (G := Nat) [8] (fun k => [.int .i64 (k : Int)]) [(2, ptr w.heap.size), (3, ptr (w.heap.size + 1)), (6, .slice sa l.length cap), (7, .int .i64 (l.length : Int))]
    (fun k w' => k ≤ l.length ∧ Ext w w' ∧ At w' w.heap.size [.int .i64 0, .int .i64 0, .int .i64 0, .int .i64 0] 23 ∧ At w' (w.heap.size + 1) (smy ((l.take k).map (·.2))).cells 23 ∧ w.heap.size + 2 ≤ w'.heap.size)
    (fun k => l.length - k) 0 rfl ⟨rfl, rfl, rfl, rfl, trivial⟩ ⟨by omega, by (repeat (first | exact Fr.refl _ _ | assumption | apply Fr.drewN | apply Fr.alloc | (apply Fr.transF; assumption) | (refine Fr.setRow ?_ _ (by first | exact Or.inr (by (first | omega | (simp; done) | (simp; omega))) | (exact Or.inl (by first | assumption | (simp; done))))))), by (repeat (first | assumption | (refine At.new' (by (first | omega | (simp; done) | (simp; omega))) _ _) | apply At.alloc | apply At.drewN | apply At.setRow | (apply At.setRow_neF; first | assumption | (apply Ne.symm; assumption) | omega) | (apply At.extF; assumption))), by show At _ _ [.int .i64 0, .int .i64 0, .int .i64 0, .int .i64 0] _; (repeat (first | assumption | (refine At.new' (by (first | omega | (simp; done) | (simp; omega))) _ _) | apply At.alloc | apply At.drewN | apply At.setRow | (apply At.setRow_neF; first | assumption | (apply Ne.symm; assumption) | omega) | (apply At.extF; assumption))), by simp⟩ ?_
  rintro k w1 ⟨hk, hx, ha0, ha1, hl1⟩
  by_cases hlt : k < l.length
  · have hsn := smy_snoc he hlt
    have hok : (smy ((l.take k).map (·.2))).ok := (he.take k).smy_ok
    have hn : (smy ((l.take k).map (·.2))).n = (k : Int) := by rw [smy_n]; simp; omega
    obtain ⟨b, o, e, _, hcell⟩ := (hr.ext hx).at (m := 2) (fun _ => rfl) (by omega) hlt
    subst e
    generalize l[k] = x at *
    generalize smy ((l.take k).map (·.2)) = s at *
    unfold Sm.cells at ha1
    repeat (first | refine sp ?_ | (refine is_load ?_; refine ld ?_) | (refine is_store ?_; refine sr ?_) | (refine is_alloc ?_; refine al ?_) | (refine is_box ?_; refine bx ?_) | (refine isl_load ?_; refine ldl ?_) | (refine isl_store ?_; refine srl ?_) | (refine isl_alloc ?_; refine all' ?_) | (refine isl_box ?_; refine bxl ?_))
    refine go_load (v := .agg (entC x).toArray) rfl rfl (ld_cells (m := 2) rfl (by decide) fun j u hj => by rw [addr_add]; exact hcell j u hj) ?_
    unfold entC
    repeat (first | refine sp ?_ | (refine is_load ?_; refine ld ?_) | (refine is_store ?_; refine sr ?_) | (refine is_alloc ?_; refine al ?_) | (refine is_box ?_; refine bx ?_) | (refine isl_load ?_; refine ldl ?_) | (refine isl_store ?_; refine srl ?_) | (refine isl_alloc ?_; refine all' ?_) | (refine isl_box ?_; refine bxl ?_))
    refine go_name (F := fun w3 => At w3 w1.heap.size [.int .i64 x.1, .int .i64 x.2] 53 ∧ At w3 w.heap.size [.int .i64 0, .int .i64 0, .int .i64 0, .int .i64 0] 23 ∧ At w3 (w.heap.size + 1) [.int .i64 s.n, .int .i64 s.s, .int .i64 s.mn, .int .i64 s.mx] 23 ∧ Ext w w3 ∧ w.heap.size + 2 ≤ w3.heap.size) ⟨by (repeat (first | assumption | (refine At.new' (by (first | omega | (simp; done) | (simp; omega))) _ _) | apply At.alloc | apply At.drewN | apply At.setRow | (apply At.setRow_neF; first | assumption | (apply Ne.symm; assumption) | omega) | (apply At.extF; assumption))), by (repeat (first | assumption | (refine At.new' (by (first | omega | (simp; done) | (simp; omega))) _ _) | apply At.alloc | apply At.drewN | apply At.setRow | (apply At.setRow_neF; first | assumption | (apply Ne.symm; assumption) | omega) | (apply At.extF; assumption))), by (repeat (first | assumption | (refine At.new' (by (first | omega | (simp; done) | (simp; omega))) _ _) | apply At.alloc | apply At.drewN | apply At.setRow | (apply At.setRow_neF; first | assumption | (apply Ne.symm; assumption) | omega) | (apply At.extF; assumption))), by (repeat (first | exact Fr.refl _ _ | assumption | apply Fr.drewN | apply Fr.alloc | (apply Fr.transF; assumption) | (refine Fr.setRow ?_ _ (by first | exact Or.inr (by (first | omega | (simp; done) | (simp; omega))) | (exact Or.inl (by first | assumption | (simp; done))))))), by simp; omega⟩ ?_
    rintro w3 ⟨hb1, hb2, hb3, hx3, hl3⟩
    refine go_drawE (Fr (fun _ => False) w3) 1 Try.follows (by kernel_rfl) (by kernel_rfl) (by kernel_rfl) ((Fr.refl _ _).drewN 1) ?_
    repeat (first | refine sp ?_ | (refine is_load ?_; refine ld ?_) | (refine is_store ?_; refine sr ?_) | (refine is_alloc ?_; refine al ?_) | (refine is_box ?_; refine bx ?_) | (refine isl_load ?_; refine ldl ?_) | (refine isl_store ?_; refine srl ?_) | (refine isl_alloc ?_; refine all' ?_) | (refine isl_box ?_; refine bxl ?_))
    refine gol_call rfl rfl (c_one x.2 _) ?_
    rintro _ w6 ⟨rfl, hf6⟩
    have g6 : Ext w3 w6 := Fr.trans ((Fr.refl _ _).drewN 1) hf6
    refine ⟨g6, ?_⟩
    repeat (first | refine sp ?_ | (refine is_load ?_; refine ld ?_) | (refine is_store ?_; refine sr ?_) | (refine is_alloc ?_; refine al ?_) | (refine is_box ?_; refine bx ?_) | (refine isl_load ?_; refine ldl ?_) | (refine isl_store ?_; refine srl ?_) | (refine isl_alloc ?_; refine all' ?_) | (refine isl_box ?_; refine bxl ?_))
    refine gol_call rfl rfl (c_SAdd s (Sm.one x.2) w6 (by omega) (by simp [Sm.one])) ?_
    rintro _ w7 ⟨rfl, hf7⟩
    have g7 := g6.trans hf7
    refine ⟨g7, ?_⟩
    rw [← hsn]
    have hc2 := hb2.ext g7
    have hc3 := hb3.ext g7
    have hx7 := hx3.trans g7
    have hl7 := g7.size
    unfold Sm.cells
    repeat (first | refine sp ?_ | (refine is_load ?_; refine ld ?_) | (refine is_store ?_; refine sr ?_) | (refine is_alloc ?_; refine al ?_) | (refine is_box ?_; refine bx ?_) | (refine isl_load ?_; refine ldl ?_) | (refine isl_store ?_; refine srl ?_) | (refine isl_alloc ?_; refine all' ?_) | (refine isl_box ?_; refine bxl ?_))
    refine go_stop (G := Nat) (k + 1) rfl ⟨rfl, rfl, rfl, rfl, trivial⟩ ⟨hlt, by (repeat (first | exact Fr.refl _ _ | assumption | apply Fr.drewN | apply Fr.alloc | (apply Fr.transF; assumption) | (refine Fr.setRow ?_ _ (by first | exact Or.inr (by (first | omega | (simp; done) | (simp; omega))) | (exact Or.inl (by first | assumption | (simp; done))))))), by (repeat (first | assumption | (refine At.new' (by (first | omega | (simp; done) | (simp; omega))) _ _) | apply At.alloc | apply At.drewN | apply At.setRow | (apply At.setRow_neF; first | assumption | (apply Ne.symm; assumption) | omega) | (apply At.extF; assumption))), by show At _ _ _ _; (repeat (first | assumption | (refine At.new' (by (first | omega | (simp; done) | (simp; omega))) _ _) | apply At.alloc | apply At.drewN | apply At.setRow | (apply At.setRow_neF; first | assumption | (apply Ne.symm; assumption) | omega) | (apply At.extF; assumption))), by simp; omega⟩ (by show l.length - (k + 1) < l.length - k; omega)
  · obtain rfl : k = l.length := by omega
    rw [List.take_length] at ha1
    generalize smy (l.map (·.2)) = s at *
    unfold Sm.cells at ha1
    repeat (first | refine sp ?_ | (refine is_load ?_; refine ld ?_) | (refine is_store ?_; refine sr ?_) | (refine is_alloc ?_; refine al ?_) | (refine is_box ?_; refine bx ?_) | (refine isl_load ?_; refine ldl ?_) | (refine isl_store ?_; refine srl ?_) | (refine isl_alloc ?_; refine all' ?_) | (refine isl_box ?_; refine bxl ?_))
    refine go_ret1 rfl ⟨_, rfl, Ld.run (ld_part (by (repeat (first | assumption | (refine At.new' (by (first | omega | (simp; done) | (simp; omega))) _ _) | apply At.alloc | apply At.drewN | apply At.setRow | (apply At.setRow_neF; first | assumption | (apply Ne.symm; assumption) | omega) | (apply At.extF; assumption)))) rfl rfl)⟩ ⟨_, rfl, rfl, by (repeat (first | exact Fr.refl _ _ | assumption | apply Fr.drewN | apply Fr.alloc | (apply Fr.transF; assumption) | (refine Fr.setRow ?_ _ (by first | exact Or.inr (by (first | omega | (simp; done) | (simp; omega))) | (exact Or.inl (by first | assumption | (simp; done)))))))⟩

theorem smy_step {s : Sm} (hs : s.ok) (v : Int) : s.add (Sm.one v) = ⟨s.n + 1, if s.n = 0 then v else w64 (s.s + v), if s.n = 0 ∨ v < s.mn then v else s.mn, if s.n = 0 ∨ s.mx < v then v else s.mx⟩ := by
  by_cases e : s.n = 0
  · rw [hs.z e, Sm.zero_add]
    simp [Sm.zero, Sm.one]
  · rw [Sm.add_pos e (by simp [Sm.one])]
    refine Sm.ext' rfl ?_ ?_ ?_
    · simp [e, Sm.one]
    · simp only [Sm.one, e, false_or]; rw [Int.min_def]; split <;> split <;> omega
    · simp only [Sm.one, e, false_or]; rw [Int.max_def]; split <;> split <;> omega

set_option maxHeartbeats 4000000 in
theorem c_Summarize (w : World) (hi : Nat) (lv : Value) (l : List (Int × Int)) (hr : RdU w hi lv entC l) (hh : hi ≤ w.heap.size) (he : InE l) (hlen : l.length ≤ 1000000) :
    Calls Try.prog 20 [lv].toArray w (Ret fun v w' => v = .agg ⟨(smy (l.map (·.2))).cells⟩ ∧ Ext w w') := by
  have hr0 := hr
  obtain ⟨sa, cap, rfl, hlc, _, _⟩ := hr0
  refine calls_go Try.func20 rfl Try.ntmps20 (Nat.le_of_ble_eq_true rfl) ?_
  repeat (first | refine sp ?_ | (refine is_load ?_; refine ld ?_) | (refine is_store ?_; refine sr ?_) | (refine is_alloc ?_; refine al ?_) | (refine is_box ?_; refine bx ?_) | (refine isl_load ?_; refine ldl ?_) | (refine isl_store ?_; refine srl ?_) | (refine isl_alloc ?_; refine all' ?_) | (refine isl_box ?_; refine bxl ?_) | refine dr Try.follows ?_)
  refine go_loop (G := Nat) [4] (fun k => [.int .i64 (k : Int)]) [(0, .slice sa l.length cap), (2, ptr w.heap.size), (3, ptr (w.heap.size + 1))]
    (fun k w' => k ≤ l.length ∧ Ext w w' ∧ At w' w.heap.size [.int .i64 0, .int .i64 0, .int .i64 0, .int .i64 0] 23 ∧ At w' (w.heap.size + 1) [.int .i64 l.length, .int .i64 (smy ((l.take k).map (·.2))).s, .int .i64 (smy ((l.take k).map (·.2))).mn, .int .i64 (smy ((l.take k).map (·.2))).mx] 23 ∧ w.heap.size + 2 ≤ w'.heap.size)
    (fun k => l.length - k) 0 rfl ⟨rfl, rfl, rfl, trivial⟩ ⟨by omega, by (repeat (first | exact Fr.refl _ _ | assumption | apply Fr.drewN | apply Fr.alloc | (apply Fr.transF; assumption) | (refine Fr.setRow ?_ _ (by first | exact Or.inr (by (first | omega | (simp; done) | (simp; omega))) | (exact Or.inl (by first | assumption | (simp; done))))))), by (repeat (first | assumption | (refine At.new' (by (first | omega | (simp; done) | (simp; omega))) _ _) | apply At.alloc | apply At.drewN | apply At.setRow | (apply At.setRow_neF; first | assumption | (apply Ne.symm; assumption) | omega) | (apply At.extF; assumption))), by show At _ _ [.int .i64 l.length, .int .i64 0, .int .i64 0, .int .i64 0] _; (repeat (first | assumption | (refine At.new' (by (first | omega | (simp; done) | (simp; omega))) _ _) | apply At.alloc | apply At.drewN | apply At.setRow | (apply At.setRow_neF; first | assumption | (apply Ne.symm; assumption) | omega) | (apply At.extF; assumption))), by simp⟩ ?_
  rintro k w1 ⟨hk, hx, ha0, ha1, hl1⟩
  by_cases hlt : k < l.length
  · have hok : (smy ((l.take k).map (·.2))).ok := (he.take k).smy_ok
    have hsn := smy_snoc he hlt
    rw [smy_step hok] at hsn
    have hv := (he _ (List.getElem_mem hlt)).2
    have hn : (smy ((l.take k).map (·.2))).n = (k : Int) := by rw [smy_n]; simp; omega
    obtain ⟨b, o, e, _, hcell⟩ := (hr.ext hx).at (m := 2) (fun _ => rfl) (by omega) hlt
    subst e
    have e1 := hcell 1 (.int .i64 l[k].2) rfl
    rw [hn] at hsn
    generalize l[k] = x at *
    have hz : k = 0 → smy ((l.take k).map (·.2)) = Sm.zero := fun e => hok.z (by omega)
    obtain ⟨z, hzz⟩ : ∃ z, smy ((l.take (k + 1)).map (·.2)) = z := ⟨_, rfl⟩
    rw [hzz] at hsn
    generalize smy ((l.take k).map (·.2)) = s at *
    have hsum : (if (k : Int) = 0 then x.2 else w64 (s.s + x.2)) = w64 (s.s + x.2) := by
      split
      · rename_i e; rw [hz (by omega)]
        show x.2 = w64 (0 + x.2)
        rw [Int.zero_add, w64_in hv]
      · rfl
    rw [hsum] at hsn
    have z1 : z.s = w64 (s.s + x.2) := by rw [hsn]
    have z2 : z.mn = if (k : Int) = 0 ∨ x.2 < s.mn then x.2 else s.mn := by rw [hsn]
    have z3 : z.mx = if (k : Int) = 0 ∨ s.mx < x.2 then x.2 else s.mx := by rw [hsn]
    clear hsn hsum
    by_cases hk0 : k = 0
    · rw [if_pos (Or.inl (by omega))] at z2 z3
      repeat (first | refine sp ?_ | (refine is_load ?_; refine ld ?_) | (refine is_store ?_; refine sr ?_) | (refine is_alloc ?_; refine al ?_) | (refine is_box ?_; refine bx ?_) | (refine isl_load ?_; refine ldl ?_) | (refine isl_store ?_; refine srl ?_) | (refine isl_alloc ?_; refine all' ?_) | (refine isl_box ?_; refine bxl ?_))
      refine go_stop (G := Nat) (k + 1) rfl ⟨rfl, rfl, rfl, trivial⟩ ⟨hlt, by (repeat (first | exact Fr.refl _ _ | assumption | apply Fr.drewN | apply Fr.alloc | (apply Fr.transF; assumption) | (refine Fr.setRow ?_ _ (by first | exact Or.inr (by (first | omega | (simp; done) | (simp; omega))) | (exact Or.inl (by first | assumption | (simp; done))))))), by (repeat (first | assumption | (refine At.new' (by (first | omega | (simp; done) | (simp; omega))) _ _) | apply At.alloc | apply At.drewN | apply At.setRow | (apply At.setRow_neF; first | assumption | (apply Ne.symm; assumption) | omega) | (apply At.extF; assumption))), by rw [hzz, z1, z2, z3]; (repeat (first | assumption | (refine At.new' (by (first | omega | (simp; done) | (simp; omega))) _ _) | apply At.alloc | apply At.drewN | apply At.setRow | (apply At.setRow_neF; first | assumption | (apply Ne.symm; assumption) | omega) | (apply At.extF; assumption))), by simp; omega⟩ (by show l.length - (k + 1) < l.length - k; omega)
    by_cases hm1 : x.2 < s.mn
    · rw [if_pos (Or.inr hm1)] at z2
      by_cases hm2 : s.mx < x.2
      · rw [if_pos (Or.inr hm2)] at z3
        repeat (first | refine sp ?_ | (refine is_load ?_; refine ld ?_) | (refine is_store ?_; refine sr ?_) | (refine is_alloc ?_; refine al ?_) | (refine is_box ?_; refine bx ?_) | (refine isl_load ?_; refine ldl ?_) | (refine isl_store ?_; refine srl ?_) | (refine isl_alloc ?_; refine all' ?_) | (refine isl_box ?_; refine bxl ?_))
        refine go_stop (G := Nat) (k + 1) rfl ⟨rfl, rfl, rfl, trivial⟩ ⟨hlt, by (repeat (first | exact Fr.refl _ _ | assumption | apply Fr.drewN | apply Fr.alloc | (apply Fr.transF; assumption) | (refine Fr.setRow ?_ _ (by first | exact Or.inr (by (first | omega | (simp; done) | (simp; omega))) | (exact Or.inl (by first | assumption | (simp; done))))))), by (repeat (first | assumption | (refine At.new' (by (first | omega | (simp; done) | (simp; omega))) _ _) | apply At.alloc | apply At.drewN | apply At.setRow | (apply At.setRow_neF; first | assumption | (apply Ne.symm; assumption) | omega) | (apply At.extF; assumption))), by rw [hzz, z1, z2, z3]; (repeat (first | assumption | (refine At.new' (by (first | omega | (simp; done) | (simp; omega))) _ _) | apply At.alloc | apply At.drewN | apply At.setRow | (apply At.setRow_neF; first | assumption | (apply Ne.symm; assumption) | omega) | (apply At.extF; assumption))), by simp; omega⟩ (by show l.length - (k + 1) < l.length - k; omega)
      · rw [if_neg (by omega)] at z3
        repeat (first | refine sp ?_ | (refine is_load ?_; refine ld ?_) | (refine is_store ?_; refine sr ?_) | (refine is_alloc ?_; refine al ?_) | (refine is_box ?_; refine bx ?_) | (refine isl_load ?_; refine ldl ?_) | (refine isl_store ?_; refine srl ?_) | (refine isl_alloc ?_; refine all' ?_) | (refine isl_box ?_; refine bxl ?_))
        refine go_stop (G := Nat) (k + 1) rfl ⟨rfl, rfl, rfl, trivial⟩ ⟨hlt, by (repeat (first | exact Fr.refl _ _ | assumption | apply Fr.drewN | apply Fr.alloc | (apply Fr.transF; assumption) | (refine Fr.setRow ?_ _ (by first | exact Or.inr (by (first | omega | (simp; done) | (simp; omega))) | (exact Or.inl (by first | assumption | (simp; done))))))), by (repeat (first | assumption | (refine At.new' (by (first | omega | (simp; done) | (simp; omega))) _ _) | apply At.alloc | apply At.drewN | apply At.setRow | (apply At.setRow_neF; first | assumption | (apply Ne.symm; assumption) | omega) | (apply At.extF; assumption))), by rw [hzz, z1, z2, z3]; (repeat (first | assumption | (refine At.new' (by (first | omega | (simp; done) | (simp; omega))) _ _) | apply At.alloc | apply At.drewN | apply At.setRow | (apply At.setRow_neF; first | assumption | (apply Ne.symm; assumption) | omega) | (apply At.extF; assumption))), by simp; omega⟩ (by show l.length - (k + 1) < l.length - k; omega)
    · rw [if_neg (by omega)] at z2
      by_cases hm2 : s.mx < x.2
      · rw [if_pos (Or.inr hm2)] at z3
        repeat (first | refine sp ?_ | (refine is_load ?_; refine ld ?_) | (refine is_store ?_; refine sr ?_) | (refine is_alloc ?_; refine al ?_) | (refine is_box ?_; refine bx ?_) | (refine isl_load ?_; refine ldl ?_) | (refine isl_store ?_; refine srl ?_) | (refine isl_alloc ?_; refine all' ?_) | (refine isl_box ?_; refine bxl ?_))
        refine go_stop (G := Nat) (k + 1) rfl ⟨rfl, rfl, rfl, trivial⟩ ⟨hlt, by (repeat (first | exact Fr.refl _ _ | assumption | apply Fr.drewN | apply Fr.alloc | (apply Fr.transF; assumption) | (refine Fr.setRow ?_ _ (by first | exact Or.inr (by (first | omega | (simp; done) | (simp; omega))) | (exact Or.inl (by first | assumption | (simp; done))))))), by (repeat (first | assumption | (refine At.new' (by (first | omega | (simp; done) | (simp; omega))) _ _) | apply At.alloc | apply At.drewN | apply At.setRow | (apply At.setRow_neF; first | assumption | (apply Ne.symm; assumption) | omega) | (apply At.extF; assumption))), by rw [hzz, z1, z2, z3]; (repeat (first | assumption | (refine At.new' (by (first | omega | (simp; done) | (simp; omega))) _ _) | apply At.alloc | apply At.drewN | apply At.setRow | (apply At.setRow_neF; first | assumption | (apply Ne.symm; assumption) | omega) | (apply At.extF; assumption))), by simp; omega⟩ (by show l.length - (k + 1) < l.length - k; omega)
      · rw [if_neg (by omega)] at z3
        repeat (first | refine sp ?_ | (refine is_load ?_; refine ld ?_) | (refine is_store ?_; refine sr ?_) | (refine is_alloc ?_; refine al ?_) | (refine is_box ?_; refine bx ?_) | (refine isl_load ?_; refine ldl ?_) | (refine isl_store ?_; refine srl ?_) | (refine isl_alloc ?_; refine all' ?_) | (refine isl_box ?_; refine bxl ?_))
        refine go_stop (G := Nat) (k + 1) rfl ⟨rfl, rfl, rfl, trivial⟩ ⟨hlt, by (repeat (first | exact Fr.refl _ _ | assumption | apply Fr.drewN | apply Fr.alloc | (apply Fr.transF; assumption) | (refine Fr.setRow ?_ _ (by first | exact Or.inr (by (first | omega | (simp; done) | (simp; omega))) | (exact Or.inl (by first | assumption | (simp; done))))))), by (repeat (first | assumption | (refine At.new' (by (first | omega | (simp; done) | (simp; omega))) _ _) | apply At.alloc | apply At.drewN | apply At.setRow | (apply At.setRow_neF; first | assumption | (apply Ne.symm; assumption) | omega) | (apply At.extF; assumption))), by rw [hzz, z1, z2, z3]; (repeat (first | assumption | (refine At.new' (by (first | omega | (simp; done) | (simp; omega))) _ _) | apply At.alloc | apply At.drewN | apply At.setRow | (apply At.setRow_neF; first | assumption | (apply Ne.symm; assumption) | omega) | (apply At.extF; assumption))), by simp; omega⟩ (by show l.length - (k + 1) < l.length - k; omega)
  · obtain rfl : k = l.length := by omega
    have hn : (smy (l.map (·.2))).n = (l.length : Int) := by rw [smy_n]; simp
    rw [List.take_length, ← hn] at ha1
    generalize smy (l.map (·.2)) = s at *
    repeat (first | refine sp ?_ | (refine is_load ?_; refine ld ?_) | (refine is_store ?_; refine sr ?_) | (refine is_alloc ?_; refine al ?_) | (refine is_box ?_; refine bx ?_) | (refine isl_load ?_; refine ldl ?_) | (refine isl_store ?_; refine srl ?_) | (refine isl_alloc ?_; refine all' ?_) | (refine isl_box ?_; refine bxl ?_))
    refine go_ret1 rfl ⟨_, rfl, Ld.run (ld_part (by (repeat (first | assumption | (refine At.new' (by (first | omega | (simp; done) | (simp; omega))) _ _) | apply At.alloc | apply At.drewN | apply At.setRow | (apply At.setRow_neF; first | assumption | (apply Ne.symm; assumption) | omega) | (apply At.extF; assumption)))) rfl rfl)⟩ ⟨_, rfl, rfl, by (repeat (first | exact Fr.refl _ _ | assumption | apply Fr.drewN | apply Fr.alloc | (apply Fr.transF; assumption) | (refine Fr.setRow ?_ _ (by first | exact Or.inr (by (first | omega | (simp; done) | (simp; omega))) | (exact Or.inl (by first | assumption | (simp; done)))))))⟩

end Go.Proofs.Ytklgmomhdlhajaa
