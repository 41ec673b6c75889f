/-
  The audit finds lost references, and damage.
-/
import Derived.Test.YtapocbahkeoeoaaAu9
set_option linter.unusedVariables false
namespace Go.Proofs.Ytapocbahkeoeoaa
open Go.Vc


/-- Whether one of the findings is of the kind 4 for slot 'x'. -/
def fd4 (x : Nat) (l : List Fd) : Bool := l.any fun f => decide (f.kind = 4) && decide (f.slot = x)

set_option maxHeartbeats 8000000 in
theorem c_LawLost (cap : Int) (lv : Value) (l : List St6) (which : Int) (add : Bool) (w : World) (h : Rd w 0 lv St6.cells l) (hw : ∀ s ∈ l, s.wf) (hlen : l.length ≤ 9223372036854775807) (hcp : -9223372036854775808 ≤ cap ∧ cap ≤ 9223372036854775807) (hwh : -9223372036854775808 ≤ which ∧ which ≤ 9223372036854775807) :
    Calls Try.prog 13 [.int .i64 cap, lv, .int .i64 which, .bool add].toArray w (Ret fun r w' => r = .bool true ∧ Ext w w') := by
  have m1 := Int.emod_nonneg cap (show (30 : Int) ≠ 0 by omega)
  have m2 := Int.emod_lt_of_pos cap (show (0 : Int) < 30 by omega)
  refine calls_go Try.func13 rfl Try.ntmps13 (Nat.le_of_ble_eq_true rfl) ?_
  repeat (first | refine sp ?_ | (refine is_load ?_; refine ld ?_) | (refine is_store ?_; refine sr ?_) | (refine is_alloc ?_; refine al ?_) | (refine is_box ?_; refine bx ?_) | (refine isl_load ?_; refine ldl ?_) | (refine isl_store ?_; refine srl ?_) | (refine isl_alloc ?_; refine all' ?_) | (refine isl_box ?_; refine bxl ?_) | refine dr Try.follows ?_)
  refine go_call rfl rfl (c_Mod cap 30 _ hcp (by omega)) ?_
  rintro _ w0 ⟨rfl, rfl⟩
  obtain ⟨n, hn⟩ : ∃ n : Nat, 1 + cap % 30 = (n : Int) := ⟨(1 + cap % 30).toNat, by omega⟩
  repeat (first | refine sp ?_ | (refine is_load ?_; refine ld ?_) | (refine is_store ?_; refine sr ?_) | (refine is_alloc ?_; refine al ?_) | (refine is_box ?_; refine bx ?_) | (refine isl_load ?_; refine ldl ?_) | (refine isl_store ?_; refine srl ?_) | (refine isl_alloc ?_; refine all' ?_) | (refine isl_box ?_; refine bxl ?_) | refine dr Try.follows ?_)
  refine go_as 21 (u' := .int .i64 (n : Int)) rfl (by rw [hn]) ?_
  refine go_call rfl rfl (c_build6 n lv l _ h hw hlen (by omega) (by omega)) ?_
  rintro _ w1 ⟨lo, lo2, p, q, A, hv, H, dv, hlo, rfl, g, hdp, hcap, hHl, hH1, hx1⟩
  obtain ⟨sv, fv, rfl, hs, hf⟩ := id hdp
  have hs' := hs.up
  have hf' := hf.up
  obtain ⟨s1, c1, rfl, hc1, _, _⟩ := hs
  obtain ⟨s2, c2, rfl, hc2, _, _⟩ := hf
  obtain ⟨sa, ca, rfl, hca, hra⟩ := g.ho.slice
  have hok := g.snd.dok
  have hhr := g.ho.up
  have hrb : ∀ x ∈ H, x < 4294967296 := fun x hx => by have := g.mem_le hx; omega
  have hdl : A.dump.slots.length = n := by rw [dump_slots, hcap]
  repeat (first | refine sp ?_ | (refine is_load ?_; refine ld ?_) | (refine is_store ?_; refine sr ?_) | (refine is_alloc ?_; refine al ?_) | (refine is_box ?_; refine bx ?_) | (refine isl_load ?_; refine ldl ?_) | (refine isl_store ?_; refine srl ?_) | (refine isl_alloc ?_; refine all' ?_) | (refine isl_box ?_; refine bxl ?_) | refine dr Try.follows ?_)
  refine go_name (F := fun w2 => At w2 w1.heap.size [.slice s1 A.dump.slots.length c1, .slice s2 A.dump.free.length c2] 36 ∧ Ext w1 w2) ⟨by (repeat (first | assumption | (refine At.new' (by (first | omega | (simp; done) | (simp; omega))) _ _) | apply At.alloc | apply At.drewN | apply At.setRow | (apply At.setRow_neF; first | assumption | (apply Ne.symm; assumption) | omega) | (apply At.extF; assumption))), by (repeat (first | exact Fr.refl _ _ | assumption | apply Fr.drewN | apply Fr.alloc | (apply Fr.transF; assumption) | (refine Fr.setRow ?_ _ (by first | exact Or.inr (by (first | omega | (simp; done) | (simp; omega))) | (exact Or.inl (by first | assumption | (simp; done)))))))⟩ ?_
  rintro w2 ⟨hdb, hx2⟩
  refine go_call rfl rfl (c_awake6 w2) ?_
  rintro _ w3 ⟨rfl, hx3⟩
  replace hdb := hdb.ext hx3
  have hx13 := hx2.trans hx3
  clear hx2 hx3
  have m3 := Int.emod_nonneg which (show ((H.length : Nat) : Int) ≠ 0 by omega)
  have m4 := Int.emod_lt_of_pos which (show (0 : Int) < ((H.length : Nat) : Int) by omega)
  obtain ⟨k, hk⟩ : ∃ k : Nat, which % ((H.length : Nat) : Int) = (k : Int) := ⟨(which % ((H.length : Nat) : Int)).toNat, by omega⟩
  have hkl : k < H.length := by omega
  repeat (first | refine sp ?_ | (refine is_load ?_; refine ld ?_) | (refine is_store ?_; refine sr ?_) | (refine is_alloc ?_; refine al ?_) | (refine is_box ?_; refine bx ?_) | (refine isl_load ?_; refine ldl ?_) | (refine isl_store ?_; refine srl ?_) | (refine isl_alloc ?_; refine all' ?_) | (refine isl_box ?_; refine bxl ?_) | refine dr Try.follows ?_)
  refine go_call rfl rfl (c_Mod which ((H.length : Nat) : Int) _ hwh (by omega)) ?_
  rintro _ w4 ⟨rfl, rfl⟩
  refine go_as 36 (u' := .int .i64 (k : Int)) rfl (by rw [hk]) ?_
  have hra3 := hra.ext hx13
  obtain ⟨b0, o0, hsv, hcellH⟩ := hra3 k (.int .u32 ((H[k] : Nat) : Int)) (by simp [hkl])
  subst hsv
  have hxm := g.mem (List.getElem_mem hkl)
  have hxb := g.mem_le (List.getElem_mem hkl)
  have hcd := count_drop H k hkl H[k]
  rw [List.count_singleton_self] at hcd
  generalize hxk : H[k] = x at *
  by_cases hx0 : x = 0
  · subst hx0
    repeat (first | refine sp ?_ | (refine is_load ?_; refine ld ?_) | (refine is_store ?_; refine sr ?_) | (refine is_alloc ?_; refine al ?_) | (refine is_box ?_; refine bx ?_) | (refine isl_load ?_; refine ldl ?_) | (refine isl_store ?_; refine srl ?_) | (refine isl_alloc ?_; refine all' ?_) | (refine isl_box ?_; refine bxl ?_) | refine dr Try.follows ?_)
    exact go_ret1 rfl rfl ⟨_, rfl, rfl, hx1.trans hx13⟩
  have hu : A.used x = true := hxm.resolve_left hx0
  obtain ⟨i, rfl⟩ : ∃ i, x = i + 1 := ⟨x - 1, by omega⟩
  have hi : i < A.cap := by have := used_le g.snd.wf hu; omega
  have hcb : ∀ j, H.count j ≤ 1000000 := fun j => Nat.le_trans List.count_le_length (by omega)
  repeat (first | refine sp ?_ | (refine is_load ?_; refine ld ?_) | (refine is_store ?_; refine sr ?_) | (refine is_alloc ?_; refine al ?_) | (refine is_box ?_; refine bx ?_) | (refine isl_load ?_; refine ldl ?_) | (refine isl_store ?_; refine srl ?_) | (refine isl_alloc ?_; refine all' ?_) | (refine isl_box ?_; refine bxl ?_) | refine dr Try.follows ?_)
  refine gol_p rfl rfl (pr_sl (lo := 0) (hi := k) (by decide) rfl rfl ⟨_, _, rfl, rfl⟩ (by omega) (by omega)) ?_
  have hrd := (Fr.refl (fun _ => False) w4).drewN 1
  refine gol_appendG (r := k) (lo := w4.heap.size) (q := 0) (xs := []) (by decide) rfl rfl rfl (Own.nil _ _ _ _) ((RdC.cut hra3 (lo := 0) (hi := k) (by omega)).ext hrd) (by simp; omega) (by intro u hu; simp at hu; obtain ⟨_, _, rfl⟩ := List.mem_map.1 (List.mem_of_mem_take hu); rfl) (by simp [maxLen]; omega) (by omega) (by simp) ?_
  intro v6 w6 ho6 hg6 _
  have hx6 : Ext w4 w6 := ext_grown hrd (Nat.le_refl _) (Own.nil _ w4.heap.size 27 1) hg6
  have hr6 := hra3.ext hx6
  refine ⟨hx6, ?_⟩
  repeat (first | refine sp ?_ | (refine is_load ?_; refine ld ?_) | (refine is_store ?_; refine sr ?_) | (refine is_alloc ?_; refine al ?_) | (refine is_box ?_; refine bx ?_) | (refine isl_load ?_; refine ldl ?_) | (refine isl_store ?_; refine srl ?_) | (refine isl_alloc ?_; refine all' ?_) | (refine isl_box ?_; refine bxl ?_))
  refine gol_p rfl rfl (pr_sl (lo := k + 1) (hi := H.length) (by decide) rfl ⟨_, _, rfl, by simp⟩ rfl (by omega) (by omega)) ?_
  have hl6 := hx6.size
  refine gol_appendG (r := H.length - (k + 1)) (by decide) rfl rfl rfl ho6 (RdC.cut hr6 (lo := k + 1) (hi := H.length) (by omega)) (by simp) (by intro u hu; obtain ⟨_, _, rfl⟩ := List.mem_map.1 (List.mem_of_mem_take (List.mem_of_mem_drop hu)); rfl) (by simp [maxLen]; omega) (by omega) (by omega) ?_
  intro v7 w7 ho7 hg7 _
  have hx7 : Ext w4 w7 := ext_grown hx6 (Nat.le_refl _) ho6 hg7
  refine ⟨hx7, ?_⟩
  have hH : ([] : List Value) ++ ((H.map fun (i : Nat) => Value.int .u32 (i : Int)).take k).drop 0 ++ ((H.map fun (i : Nat) => Value.int .u32 (i : Int)).take H.length).drop (k + 1) = (H.take k ++ H.drop (k + 1)).map fun (i : Nat) => Value.int .u32 (i : Int) := by
    have ht : (H.map fun (i : Nat) => Value.int .u32 (i : Int)).take H.length = H.map fun (i : Nat) => Value.int .u32 (i : Int) := List.take_of_length_le (by simp)
    rw [List.nil_append, List.drop_zero, List.map_append, List.map_take, List.map_drop, ht]
  have hlen2 : (H.take k ++ H.drop (k + 1)).length = 0 + k + (H.length - (k + 1)) := by simp; omega
  have hO : OwnN w7 w4.heap.size v7 (H.take k ++ H.drop (k + 1)) := by
    unfold OwnN
    rw [hlen2, ← hH]; exact ho7
  have hOc : (H.take k ++ H.drop (k + 1)).count (i + 1) ≠ H.count (i + 1) := by omega
  have hOm : ∀ y ∈ H.take k ++ H.drop (k + 1), y < 4294967296 := fun y hy => by
    rcases List.mem_append.1 hy with hy | hy
    · exact hrb y (List.mem_of_mem_take hy)
    · exact hrb y (List.mem_of_mem_drop hy)
  have hOl : (H.take k ++ H.drop (k + 1)).length ≤ 100 := by omega
  generalize H.take k ++ H.drop (k + 1) = O at hO hOc hOm hOl
  clear ho7 hH hlen2 ho6
  have hx17 := hx13.trans hx7
  replace hdb := hdb.ext hx7
  obtain ⟨os, oc, rfl, _, _⟩ := hO.slice
  cases add with
  | false =>
    repeat (first | refine sp ?_ | (refine is_load ?_; refine ld ?_) | (refine is_store ?_; refine sr ?_) | (refine is_alloc ?_; refine al ?_) | (refine is_box ?_; refine bx ?_) | (refine isl_load ?_; refine ldl ?_) | (refine isl_store ?_; refine srl ?_) | (refine isl_alloc ?_; refine all' ?_) | (refine isl_box ?_; refine bxl ?_))
    refine go_call rfl rfl (a_Check w7 lo2 w7.heap.size _ _ A.dump O (hdp.ext hx17) hok hO.up (Nat.le_refl _) (by omega) hOm) ?_
    rintro f1 w10 ⟨P2, lo3, hlo3, hf1, hP2, hx10⟩
    have hf1' := hf1.rd.up
    unfold OwnF at hf1
    obtain ⟨f1s, f1c, rfl, _, _⟩ := hf1.slice
    obtain ⟨f0, hfm, hfk, hfs⟩ := lost_ref g.snd (fun i _ => rfl) hcb hi hOc hu P2
    have hfin : fd4 (i + 1) (finds A.dump O P2) = true := by
      unfold fd4
      exact List.any_eq_true.2 ⟨f0, hfm, by simp [hfk, hfs]⟩
    have hfl : (finds A.dump O P2).length ≤ 100000000 := by
      have h1 := fdSlots_len A.dump O P2 A.dump.slots.length
      have h2 := flatMap_le (fdRange A.dump) 1 (fun _ => ite_le2) A.dump.free
      have h3 := flatMap_le (fdRoot A.dump) 1 (fun _ => ite_le2) O
      have h4 := hok.flen
      unfold finds
      rw [List.length_append, List.length_append]; omega
    generalize finds A.dump O P2 = F at *
    have hx110 := hx17.trans hx10
    repeat (first | refine sp ?_ | (refine is_load ?_; refine ld ?_) | (refine is_store ?_; refine sr ?_) | (refine is_alloc ?_; refine al ?_) | (refine is_box ?_; refine bx ?_) | (refine isl_load ?_; refine ldl ?_) | (refine isl_store ?_; refine srl ?_) | (refine isl_alloc ?_; refine all' ?_) | (refine isl_box ?_; refine bxl ?_))
    refine go_loop (G := Nat) [17, 16] (fun j => [.int .i64 (j : Int), .bool (fd4 (i + 1) (F.take j))]) [(13, .int .u32 ((i + 1 : Nat) : Int)), (15, .slice f1s F.length f1c)]
      (fun j w' => j ≤ F.length ∧ Ext w10 w') (fun j => F.length - j) 0 rfl ⟨rfl, rfl, trivial⟩ ⟨by omega, by (repeat (first | exact Fr.refl _ _ | assumption | apply Fr.drewN | apply Fr.alloc | (apply Fr.transF; assumption) | (refine Fr.setRow ?_ _ (by first | exact Or.inr (by (first | omega | (simp; done) | (simp; omega))) | (exact Or.inl (by first | assumption | (simp; done)))))))⟩ ?_
    rintro j w11 ⟨hj, hx11⟩
    by_cases hlt : j < F.length
    · obtain ⟨b, o, e, _, hcell⟩ := (hf1'.ext hx11).at (m := 4) fd_len (by omega) hlt
      subst e
      have hts : fd4 (i + 1) (F.take (j + 1)) = (fd4 (i + 1) (F.take j) || (decide (F[j].kind = 4) && decide (F[j].slot = i + 1))) := by
        have hmap : F.take (j + 1) = F.take j ++ [F[j]] := List.take_succ_eq_append_getElem hlt
        unfold fd4
        rw [hmap, List.any_append]; simp only [List.any_cons, List.any_nil, Bool.or_false]
      generalize F[j] = f at *
      have e0 := hcell 0 (.int .i64 f.kind) rfl
      have e1 := hcell 1 (.int .u32 (f.slot : Int)) rfl
      cases hfd : fd4 (i + 1) (F.take j) with
      | true =>
        rw [hfd] at hts
        repeat (first | refine sp ?_ | (refine is_load ?_; refine ld ?_) | (refine is_store ?_; refine sr ?_) | (refine is_alloc ?_; refine al ?_) | (refine is_box ?_; refine bx ?_) | (refine isl_load ?_; refine ldl ?_) | (refine isl_store ?_; refine srl ?_) | (refine isl_alloc ?_; refine all' ?_) | (refine isl_box ?_; refine bxl ?_))
        exact go_stop (G := Nat) (j + 1) (by rw [hts]; rfl) ⟨rfl, rfl, trivial⟩ ⟨hlt, hx11⟩ (by show F.length - (j + 1) < F.length - j; omega)
      | false =>
        rw [hfd] at hts
        by_cases hk4 : f.kind = 4
        · by_cases hsl : f.slot = i + 1
          · rw [decide_eq_true hk4, decide_eq_true hsl] at hts
            repeat (first | refine sp ?_ | (refine is_load ?_; refine ld ?_) | (refine is_store ?_; refine sr ?_) | (refine is_alloc ?_; refine al ?_) | (refine is_box ?_; refine bx ?_) | (refine isl_load ?_; refine ldl ?_) | (refine isl_store ?_; refine srl ?_) | (refine isl_alloc ?_; refine all' ?_) | (refine isl_box ?_; refine bxl ?_))
            exact go_stop (G := Nat) (j + 1) (by rw [hts]; rfl) ⟨rfl, rfl, trivial⟩ ⟨hlt, hx11⟩ (by show F.length - (j + 1) < F.length - j; omega)
          · rw [decide_eq_false hsl, Bool.and_false] at hts
            repeat (first | refine sp ?_ | (refine is_load ?_; refine ld ?_) | (refine is_store ?_; refine sr ?_) | (refine is_alloc ?_; refine al ?_) | (refine is_box ?_; refine bx ?_) | (refine isl_load ?_; refine ldl ?_) | (refine isl_store ?_; refine srl ?_) | (refine isl_alloc ?_; refine all' ?_) | (refine isl_box ?_; refine bxl ?_))
            exact go_stop (G := Nat) (j + 1) (by rw [hts]; rfl) ⟨rfl, rfl, trivial⟩ ⟨hlt, hx11⟩ (by show F.length - (j + 1) < F.length - j; omega)
        · rw [decide_eq_false hk4, Bool.false_and] at hts
          repeat (first | refine sp ?_ | (refine is_load ?_; refine ld ?_) | (refine is_store ?_; refine sr ?_) | (refine is_alloc ?_; refine al ?_) | (refine is_box ?_; refine bx ?_) | (refine isl_load ?_; refine ldl ?_) | (refine isl_store ?_; refine srl ?_) | (refine isl_alloc ?_; refine all' ?_) | (refine isl_box ?_; refine bxl ?_))
          exact go_stop (G := Nat) (j + 1) (by rw [hts]; rfl) ⟨rfl, rfl, trivial⟩ ⟨hlt, hx11⟩ (by show F.length - (j + 1) < F.length - j; omega)
    · obtain rfl : j = F.length := by omega
      rw [List.take_length, hfin]
      repeat (first | refine sp ?_ | (refine is_load ?_; refine ld ?_) | (refine is_store ?_; refine sr ?_) | (refine is_alloc ?_; refine al ?_) | (refine is_box ?_; refine bx ?_) | (refine isl_load ?_; refine ldl ?_) | (refine isl_store ?_; refine srl ?_) | (refine isl_alloc ?_; refine all' ?_) | (refine isl_box ?_; refine bxl ?_))
      exact go_ret1 rfl rfl ⟨_, rfl, rfl, (hx1.trans hx110).trans hx11⟩
  | true =>
    have hr7 := hra3.ext hx7
    repeat (first | refine sp ?_ | (refine is_load ?_; refine ld ?_) | (refine is_store ?_; refine sr ?_) | (refine is_alloc ?_; refine al ?_) | (refine is_box ?_; refine bx ?_) | (refine isl_load ?_; refine ldl ?_) | (refine isl_store ?_; refine srl ?_) | (refine isl_alloc ?_; refine all' ?_) | (refine isl_box ?_; refine bxl ?_))
    refine go_appendG (r := H.length) (lo := w7.heap.size) (q := 0) (xs := []) (by decide) rfl rfl rfl (Own.nil _ _ _ _) hr7 (by simp) (by intro u hu; obtain ⟨_, _, rfl⟩ := List.mem_map.1 hu; rfl) (by simp [maxLen]; omega) (by omega) (Nat.le_refl _) ?_
    intro v8 w8 ho8 hg8 _
    have hx8 : Ext w7 w8 := ext_grown (Fr.refl _ _) (Nat.le_refl _) (Own.nil _ w7.heap.size 27 1) hg8
    have ho8' : OwnN w8 w7.heap.size v8 H := by unfold OwnN; simpa using ho8
    obtain ⟨ps, pc, rfl, _, _⟩ := ho8'.slice
    repeat (first | refine sp ?_ | (refine is_load ?_; refine ld ?_) | (refine is_store ?_; refine sr ?_) | (refine is_alloc ?_; refine al ?_) | (refine is_box ?_; refine bx ?_) | (refine isl_load ?_; refine ldl ?_) | (refine isl_store ?_; refine srl ?_) | (refine isl_alloc ?_; refine all' ?_) | (refine isl_box ?_; refine bxl ?_))
    refine go_pushG (by decide) rfl rfl rfl rfl ho8' rfl (one_u32 _) (by omega) (by simp [maxLen]; omega) (by omega) hx8.size ?_
    intro v9 w9 ho9 hg9 hbk9
    have hx9 : Ext w7 w9 := ext_grown hx8 (Nat.le_refl _) ho8' hg9
    clear hO
    have hO : OwnN w9 w7.heap.size v9 (H ++ [i + 1]) := by unfold OwnN; rw [List.map_append, List.length_append]; simpa using ho9
    clear hOc hOm hOl
    have hOc : (H ++ [i + 1]).count (i + 1) ≠ H.count (i + 1) := by rw [List.count_append, List.count_singleton_self]; omega
    have hOm : ∀ y ∈ H ++ [i + 1], y < 4294967296 := fun y hy => by
      rcases List.mem_append.1 hy with hy | hy
      · exact hrb y hy
      · simp at hy; omega
    have hOl : (H ++ [i + 1]).length ≤ 100 := by simp; omega
    generalize H ++ [i + 1] = O at hO hOc hOm hOl
    clear ho9 ho8 ho8'
    replace hx17 := hx17.trans hx9
    replace hdb := hdb.ext hx9
    generalize w9 = w7 at *
    obtain ⟨os, oc, rfl, _, _⟩ := hO.slice
    repeat (first | refine sp ?_ | (refine is_load ?_; refine ld ?_) | (refine is_store ?_; refine sr ?_) | (refine is_alloc ?_; refine al ?_) | (refine is_box ?_; refine bx ?_) | (refine isl_load ?_; refine ldl ?_) | (refine isl_store ?_; refine srl ?_) | (refine isl_alloc ?_; refine all' ?_) | (refine isl_box ?_; refine bxl ?_))
    refine go_call rfl rfl (a_Check w7 lo2 w7.heap.size _ _ A.dump O (hdp.ext hx17) hok hO.up (Nat.le_refl _) (by omega) hOm) ?_
    rintro f1 w10 ⟨P2, lo3, hlo3, hf1, hP2, hx10⟩
    have hf1' := hf1.rd.up
    unfold OwnF at hf1
    obtain ⟨f1s, f1c, rfl, _, _⟩ := hf1.slice
    obtain ⟨f0, hfm, hfk, hfs⟩ := lost_ref g.snd (fun i _ => rfl) hcb hi hOc hu P2
    have hfin : fd4 (i + 1) (finds A.dump O P2) = true := by
      unfold fd4
      exact List.any_eq_true.2 ⟨f0, hfm, by simp [hfk, hfs]⟩
    have hfl : (finds A.dump O P2).length ≤ 100000000 := by
      have h1 := fdSlots_len A.dump O P2 A.dump.slots.length
      have h2 := flatMap_le (fdRange A.dump) 1 (fun _ => ite_le2) A.dump.free
      have h3 := flatMap_le (fdRoot A.dump) 1 (fun _ => ite_le2) O
      have h4 := hok.flen
      unfold finds
      rw [List.length_append, List.length_append]; omega
    generalize finds A.dump O P2 = F at *
    have hx110 := hx17.trans hx10
    repeat (first | refine sp ?_ | (refine is_load ?_; refine ld ?_) | (refine is_store ?_; refine sr ?_) | (refine is_alloc ?_; refine al ?_) | (refine is_box ?_; refine bx ?_) | (refine isl_load ?_; refine ldl ?_) | (refine isl_store ?_; refine srl ?_) | (refine isl_alloc ?_; refine all' ?_) | (refine isl_box ?_; refine bxl ?_))
    refine go_loop (G := Nat) [17, 16] (fun j => [.int .i64 (j : Int), .bool (fd4 (i + 1) (F.take j))]) [(13, .int .u32 ((i + 1 : Nat) : Int)), (15, .slice f1s F.length f1c)]
      (fun j w' => j ≤ F.length ∧ Ext w10 w') (fun j => F.length - j) 0 rfl ⟨rfl, rfl, trivial⟩ ⟨by omega, by (repeat (first | exact Fr.refl _ _ | assumption | apply Fr.drewN | apply Fr.alloc | (apply Fr.transF; assumption) | (refine Fr.setRow ?_ _ (by first | exact Or.inr (by (first | omega | (simp; done) | (simp; omega))) | (exact Or.inl (by first | assumption | (simp; done)))))))⟩ ?_
    rintro j w11 ⟨hj, hx11⟩
    by_cases hlt : j < F.length
    · obtain ⟨b, o, e, _, hcell⟩ := (hf1'.ext hx11).at (m := 4) fd_len (by omega) hlt
      subst e
      have hts : fd4 (i + 1) (F.take (j + 1)) = (fd4 (i + 1) (F.take j) || (decide (F[j].kind = 4) && decide (F[j].slot = i + 1))) := by
        have hmap : F.take (j + 1) = F.take j ++ [F[j]] := List.take_succ_eq_append_getElem hlt
        unfold fd4
        rw [hmap, List.any_append]; simp only [List.any_cons, List.any_nil, Bool.or_false]
      generalize F[j] = f at *
      have e0 := hcell 0 (.int .i64 f.kind) rfl
      have e1 := hcell 1 (.int .u32 (f.slot : Int)) rfl
      cases hfd : fd4 (i + 1) (F.take j) with
      | true =>
        rw [hfd] at hts
        repeat (first | refine sp ?_ | (refine is_load ?_; refine ld ?_) | (refine is_store ?_; refine sr ?_) | (refine is_alloc ?_; refine al ?_) | (refine is_box ?_; refine bx ?_) | (refine isl_load ?_; refine ldl ?_) | (refine isl_store ?_; refine srl ?_) | (refine isl_alloc ?_; refine all' ?_) | (refine isl_box ?_; refine bxl ?_))
        exact go_stop (G := Nat) (j + 1) (by rw [hts]; rfl) ⟨rfl, rfl, trivial⟩ ⟨hlt, hx11⟩ (by show F.length - (j + 1) < F.length - j; omega)
      | false =>
        rw [hfd] at hts
        by_cases hk4 : f.kind = 4
        · by_cases hsl : f.slot = i + 1
          · rw [decide_eq_true hk4, decide_eq_true hsl] at hts
            repeat (first | refine sp ?_ | (refine is_load ?_; refine ld ?_) | (refine is_store ?_; refine sr ?_) | (refine is_alloc ?_; refine al ?_) | (refine is_box ?_; refine bx ?_) | (refine isl_load ?_; refine ldl ?_) | (refine isl_store ?_; refine srl ?_) | (refine isl_alloc ?_; refine all' ?_) | (refine isl_box ?_; refine bxl ?_))
            exact go_stop (G := Nat) (j + 1) (by rw [hts]; rfl) ⟨rfl, rfl, trivial⟩ ⟨hlt, hx11⟩ (by show F.length - (j + 1) < F.length - j; omega)
          · rw [decide_eq_false hsl, Bool.and_false] at hts
            repeat (first | refine sp ?_ | (refine is_load ?_; refine ld ?_) | (refine is_store ?_; refine sr ?_) | (refine is_alloc ?_; refine al ?_) | (refine is_box ?_; refine bx ?_) | (refine isl_load ?_; refine ldl ?_) | (refine isl_store ?_; refine srl ?_) | (refine isl_alloc ?_; refine all' ?_) | (refine isl_box ?_; refine bxl ?_))
            exact go_stop (G := Nat) (j + 1) (by rw [hts]; rfl) ⟨rfl, rfl, trivial⟩ ⟨hlt, hx11⟩ (by show F.length - (j + 1) < F.length - j; omega)
        · rw [decide_eq_false hk4, Bool.false_and] at hts
          repeat (first | refine sp ?_ | (refine is_load ?_; refine ld ?_) | (refine is_store ?_; refine sr ?_) | (refine is_alloc ?_; refine al ?_) | (refine is_box ?_; refine bx ?_) | (refine isl_load ?_; refine ldl ?_) | (refine isl_store ?_; refine srl ?_) | (refine isl_alloc ?_; refine all' ?_) | (refine isl_box ?_; refine bxl ?_))
          exact go_stop (G := Nat) (j + 1) (by rw [hts]; rfl) ⟨rfl, rfl, trivial⟩ ⟨hlt, hx11⟩ (by show F.length - (j + 1) < F.length - j; omega)
    · obtain rfl : j = F.length := by omega
      rw [List.take_length, hfin]
      repeat (first | refine sp ?_ | (refine is_load ?_; refine ld ?_) | (refine is_store ?_; refine sr ?_) | (refine is_alloc ?_; refine al ?_) | (refine is_box ?_; refine bx ?_) | (refine isl_load ?_; refine ldl ?_) | (refine isl_store ?_; refine srl ?_) | (refine isl_alloc ?_; refine all' ?_) | (refine isl_box ?_; refine bxl ?_))
      exact go_ret1 rfl rfl ⟨_, rfl, rfl, (hx1.trans hx110).trans hx11⟩

theorem RdU.rd0 {α : Type} {w : World} {hi : Nat} {v : Value} {enc : α → List Value} {xs : List α} (h : RdU w hi v enc xs) (hh : hi ≤ w.heap.size) : Rd w 0 v enc xs := by
  obtain ⟨sa, cap, e, hc, hr, hb⟩ := h
  exact ⟨sa, cap, e, hc, hr, fun b o e hx => ⟨Nat.zero_le _, Nat.lt_of_lt_of_le (hb b o e hx) hh⟩⟩

set_option maxHeartbeats 8000000 in
theorem c_LawDamage (cap : Int) (lv : Value) (l : List St6) (at' by' kd : Int) (w : World) (h : Rd w 0 lv St6.cells l) (hw : ∀ s ∈ l, s.wf) (hlen : l.length ≤ 9223372036854775807) (hcp : -9223372036854775808 ≤ cap ∧ cap ≤ 9223372036854775807) (hat0 : -9223372036854775808 ≤ at' ∧ at' ≤ 9223372036854775807) (hby : -9223372036854775808 ≤ by' ∧ by' ≤ 9223372036854775807) (hkd : 0 ≤ kd ∧ kd ≤ 255) :
    Calls Try.prog 12 [.int .i64 cap, lv, .int .i64 at', .int .i64 by', .int .u8 kd].toArray w (Ret fun r w' => r = .bool true ∧ Ext w w') := by
  have m1 := Int.emod_nonneg cap (show (30 : Int) ≠ 0 by omega)
  have m2 := Int.emod_lt_of_pos cap (show (0 : Int) < 30 by omega)
  refine calls_go Try.func12 rfl Try.ntmps12 (Nat.le_of_ble_eq_true rfl) ?_
  repeat (first | refine sp ?_ | (refine is_load ?_; refine ld ?_) | (refine is_store ?_; refine sr ?_) | (refine is_alloc ?_; refine al ?_) | (refine is_box ?_; refine bx ?_) | (refine isl_load ?_; refine ldl ?_) | (refine isl_store ?_; refine srl ?_) | (refine isl_alloc ?_; refine all' ?_) | (refine isl_box ?_; refine bxl ?_) | refine dr Try.follows ?_)
  refine go_call rfl rfl (c_Mod cap 30 _ hcp (by omega)) ?_
  rintro _ w0 ⟨rfl, rfl⟩
  obtain ⟨n, hn⟩ : ∃ n : Nat, 1 + cap % 30 = (n : Int) := ⟨(1 + cap % 30).toNat, by omega⟩
  repeat (first | refine sp ?_ | (refine is_load ?_; refine ld ?_) | (refine is_store ?_; refine sr ?_) | (refine is_alloc ?_; refine al ?_) | (refine is_box ?_; refine bx ?_) | (refine isl_load ?_; refine ldl ?_) | (refine isl_store ?_; refine srl ?_) | (refine isl_alloc ?_; refine all' ?_) | (refine isl_box ?_; refine bxl ?_) | refine dr Try.follows ?_)
  refine go_as 21 (u' := .int .i64 (n : Int)) rfl (by rw [hn]) ?_
  refine go_call rfl rfl (c_build6 n lv l _ h hw hlen (by omega) (by omega)) ?_
  rintro _ w1 ⟨lo, lo2, p, q, A, hv, H, dv, hlo, rfl, g, hdp, hcap, hHl, hH1, hx1⟩
  obtain ⟨sv, fv, rfl, hs, hf⟩ := id hdp
  have hs' := hs.up
  have hf' := hf.up
  obtain ⟨s1, c1, rfl, hc1, _, _⟩ := hs
  obtain ⟨s2, c2, rfl, hc2, _, _⟩ := hf
  obtain ⟨sa, ca, rfl, hca, hra⟩ := g.ho.slice
  have hok := g.snd.dok
  have hhr := g.ho.up
  have hrb : ∀ x ∈ H, x < 4294967296 := fun x hx => by have := g.mem_le hx; omega
  have hdl : A.dump.slots.length = n := by rw [dump_slots, hcap]
  repeat (first | refine sp ?_ | (refine is_load ?_; refine ld ?_) | (refine is_store ?_; refine sr ?_) | (refine is_alloc ?_; refine al ?_) | (refine is_box ?_; refine bx ?_) | (refine isl_load ?_; refine ldl ?_) | (refine isl_store ?_; refine srl ?_) | (refine isl_alloc ?_; refine all' ?_) | (refine isl_box ?_; refine bxl ?_) | refine dr Try.follows ?_)
  refine go_name (F := fun w2 => At w2 w1.heap.size [.slice s1 A.dump.slots.length c1, .slice s2 A.dump.free.length c2] 36 ∧ Ext w1 w2) ⟨by (repeat (first | assumption | (refine At.new' (by (first | omega | (simp; done) | (simp; omega))) _ _) | apply At.alloc | apply At.drewN | apply At.setRow | (apply At.setRow_neF; first | assumption | (apply Ne.symm; assumption) | omega) | (apply At.extF; assumption))), by (repeat (first | exact Fr.refl _ _ | assumption | apply Fr.drewN | apply Fr.alloc | (apply Fr.transF; assumption) | (refine Fr.setRow ?_ _ (by first | exact Or.inr (by (first | omega | (simp; done) | (simp; omega))) | (exact Or.inl (by first | assumption | (simp; done)))))))⟩ ?_
  rintro w2 ⟨hdb, hx2⟩
  refine go_call rfl rfl (c_awake6 w2) ?_
  rintro _ w3 ⟨rfl, hx3⟩
  replace hdb := hdb.ext hx3
  have hx13 := hx2.trans hx3
  clear hx2 hx3
  have hn0 : 0 < A.dump.slots.length := by omega
  have m3 := Int.emod_nonneg at' (show ((A.dump.slots.length : Nat) : Int) ≠ 0 by omega)
  have m4 := Int.emod_lt_of_pos at' (show (0 : Int) < ((A.dump.slots.length : Nat) : Int) by omega)
  have m5 := Int.emod_nonneg by' (show (1000 : Int) ≠ 0 by omega)
  have m6 := Int.emod_lt_of_pos by' (show (0 : Int) < 1000 by omega)
  have m7 := Int.emod_nonneg kd (show (5 : Int) ≠ 0 by omega)
  have m8 := Int.emod_lt_of_pos kd (show (0 : Int) < 5 by omega)
  obtain ⟨i, hi⟩ : ∃ i : Nat, at' % ((A.dump.slots.length : Nat) : Int) = (i : Int) := ⟨(at' % ((A.dump.slots.length : Nat) : Int)).toNat, by omega⟩
  have hil : i < A.dump.slots.length := by omega
  have hic : i < A.cap := by omega
  obtain ⟨b, hb⟩ : ∃ b : Int, 1 + by' % 1000 = b := ⟨_, rfl⟩
  have hb1 : 1 ≤ b := by omega
  have hb2 : b ≤ 1000 := by omega
  have hcb : ∀ j, H.count j ≤ 1000000 := fun j => Nat.le_trans List.count_le_length (by omega)
  have hgi := dump_get hic
  have hSl : A.dump.slots[i] = A.slt (i + 1) := by rw [List.getElem?_eq_getElem hil] at hgi; exact Option.some.inj hgi
  repeat (first | refine sp ?_ | (refine is_load ?_; refine ld ?_) | (refine is_store ?_; refine sr ?_) | (refine is_alloc ?_; refine al ?_) | (refine is_box ?_; refine bx ?_) | (refine isl_load ?_; refine ldl ?_) | (refine isl_store ?_; refine srl ?_) | (refine isl_alloc ?_; refine all' ?_) | (refine isl_box ?_; refine bxl ?_) | refine dr Try.follows ?_)
  refine go_call rfl rfl (c_Mod at' ((A.dump.slots.length : Nat) : Int) _ hat0 (by omega)) ?_
  rintro _ w4 ⟨rfl, rfl⟩
  refine go_as 43 (u' := .int .i64 (i : Int)) rfl (by rw [hi]) ?_
  repeat (first | refine sp ?_ | (refine is_load ?_; refine ld ?_) | (refine is_store ?_; refine sr ?_) | (refine is_alloc ?_; refine al ?_) | (refine is_box ?_; refine bx ?_) | (refine isl_load ?_; refine ldl ?_) | (refine isl_store ?_; refine srl ?_) | (refine isl_alloc ?_; refine all' ?_) | (refine isl_box ?_; refine bxl ?_) | refine dr Try.follows ?_)
  refine go_call rfl rfl (c_Mod by' 1000 _ hby (by omega)) ?_
  rintro _ w4 ⟨rfl, rfl⟩
  repeat (first | refine sp ?_ | (refine is_load ?_; refine ld ?_) | (refine is_store ?_; refine sr ?_) | (refine is_alloc ?_; refine al ?_) | (refine is_box ?_; refine bx ?_) | (refine isl_load ?_; refine ldl ?_) | (refine isl_store ?_; refine srl ?_) | (refine isl_alloc ?_; refine all' ?_) | (refine isl_box ?_; refine bxl ?_) | refine dr Try.follows ?_)
  refine go_as 15 (u' := .int .i64 b) rfl (by rw [hb]) ?_
  repeat (first | refine sp ?_ | (refine is_load ?_; refine ld ?_) | (refine is_store ?_; refine sr ?_) | (refine is_alloc ?_; refine al ?_) | (refine is_box ?_; refine bx ?_) | (refine isl_load ?_; refine ldl ?_) | (refine isl_store ?_; refine srl ?_) | (refine isl_alloc ?_; refine all' ?_) | (refine isl_box ?_; refine bxl ?_) | refine dr Try.follows ?_)
  have hrS := (hs'.ext hx13)
  obtain ⟨_, _, e, _, hrS2, _⟩ := hrS
  injection e with e1 _ e2
  subst e1; subst e2
  refine go_appendG (r := A.dump.slots.length) (lo := w4.heap.size) (q := 0) (xs := []) (by decide) rfl rfl rfl (Own.nil _ _ _ _) hrS2 (by rw [flatMap_len slt_len]) (by intro u hu; obtain ⟨x, _, hx⟩ := List.mem_flatMap.1 hu; exact slt_one x u hx) (by simp [maxLen]; omega) (by omega) (Nat.le_refl _) ?_
  intro v5 w5 ho5 hg5 _
  have hx5 : Ext w4 w5 := ext_grown (Fr.refl _ _) (Nat.le_refl _) (Own.nil _ w4.heap.size 52 11) hg5
  rw [Nat.zero_add, List.nil_append] at ho5
  obtain ⟨g5, c5, C5, rfl, hg5l, hat5, hc5, _⟩ := ho5.blockM hn0
  clear ho5
  have hx15 := hx13.trans hx5
  replace hdb := hdb.ext hx5
  repeat (first | refine sp ?_ | (refine is_load ?_; refine ld ?_) | (refine is_store ?_; refine sr ?_) | (refine is_alloc ?_; refine al ?_) | (refine is_box ?_; refine bx ?_) | (refine isl_load ?_; refine ldl ?_) | (refine isl_store ?_; refine srl ?_) | (refine isl_alloc ?_; refine all' ?_) | (refine isl_box ?_; refine bxl ?_) | refine dr Try.follows ?_)
  have hrF := (hf'.ext hx15)
  obtain ⟨_, _, e, _, hrF2, _⟩ := hrF
  injection e with e1 _ e2
  subst e1; subst e2
  have hflm : A.dump.free.flatMap u32c = A.dump.free.map fun (i : Nat) => Value.int .u32 (i : Int) := flatMap_one _ _
  rw [hflm] at hrF2
  refine go_appendG (r := A.dump.free.length) (lo := w5.heap.size) (q := 0) (xs := []) (by decide) rfl rfl rfl (Own.nil _ _ _ _) hrF2 (by simp) (by intro u hu; obtain ⟨_, _, rfl⟩ := List.mem_map.1 hu; rfl) (by have := hok.flen; simp [maxLen]; omega) (by have := hok.flen; omega) (Nat.le_refl _) ?_
  intro v6 w6 ho6 hg6 _
  have hx6 : Ext w5 w6 := ext_grown (Fr.refl _ _) (Nat.le_refl _) (Own.nil _ w5.heap.size 27 1) hg6
  have hO6 : OwnN w6 w5.heap.size v6 A.dump.free := by unfold OwnN; simpa using ho6
  clear ho6
  have hx16 := hx15.trans hx6
  replace hdb := hdb.ext hx6
  replace hat5 := hat5.ext hx6
  obtain ⟨fs, fc, rfl, hfc, _⟩ := hO6.slice
  have hget : ∀ (off : Nat) (u : Value), (A.slt (i + 1)).cells[off]? = some u → (A.dump.slots.flatMap Slt.cells ++ C5)[0 + i * 11 + off]? = some u := fun off u hu => by
    have h1 : (A.dump.slots.flatMap Slt.cells)[i * 11 + off]? = some u := flatMap_get slt_len hgi hu
    rw [Nat.zero_add, List.getElem?_append_left (List.getElem?_eq_some_iff.1 h1).1]; exact h1
  have hset : ∀ (off : Nat) (u : Value) (s' : Slt), off < 11 → s'.cells = (A.slt (i + 1)).cells.set off u → (A.dump.slots.flatMap Slt.cells ++ C5).set (0 + i * 11 + off) u = (A.dump.slots.set i s').flatMap Slt.cells ++ C5 := fun off u s' ho hs => by
    rw [Nat.zero_add, List.set_append_left _ _ (by rw [flatMap_len slt_len]; omega), flatMap_set slt_len hil ho (by rw [hSl]; exact hs)]
  have hCl : i * 11 + 11 ≤ (A.dump.slots.flatMap Slt.cells ++ C5).length := by
    rw [List.length_append, flatMap_len slt_len]; omega
  have hsetok : ∀ s', s'.nd.left = (A.slt (i + 1)).nd.left → s'.nd.right = (A.slt (i + 1)).nd.right → (A.dump.setS i s').Ok := fun s' e1 e2 => ⟨by show (A.dump.slots.set i s').length ≤ _; rw [List.length_set]; omega, hok.flen, fun s hs => by
    have h3 := hok.kid _ (List.getElem_mem hil)
    rw [hSl] at h3
    rcases List.mem_or_eq_of_mem_set hs with hs | rfl
    · exact hok.kid s hs
    · rw [e1, e2]; exact h3, hok.fr⟩
  have hdpS : ∀ (w' : World) (s' : Slt), At w' g5 ((A.dump.slots.set i s').flatMap Slt.cells ++ C5) 52 → OwnN w' w5.heap.size (.slice fs A.dump.free.length fc) A.dump.free → DpAt w' 0 (.agg ⟨[.slice (some ⟨g5, 0, none⟩) A.dump.slots.length c5, .slice fs A.dump.free.length fc]⟩) (A.dump.setS i s') := fun w' s' h1 h2 =>
    ⟨_, _, rfl, At.rdP (xs := A.dump.slots.set i s') h1 (by rw [List.length_set]) hc5 (Nat.zero_le _), h2.rd.mono (Nat.zero_le _)⟩
  have hx1g : w1.heap.size ≤ g5 := Nat.le_trans hx13.size hg5l
  repeat (first | refine sp ?_ | (refine is_load ?_; refine ld ?_) | (refine is_store ?_; refine sr ?_) | (refine is_alloc ?_; refine al ?_) | (refine is_box ?_; refine bx ?_) | (refine isl_load ?_; refine ldl ?_) | (refine isl_store ?_; refine srl ?_) | (refine isl_alloc ?_; refine all' ?_) | (refine isl_box ?_; refine bxl ?_))
  refine go_as 54 (u' := .int .u8 (kd % 5)) rfl (by rfl) ?_
  by_cases k0 : kd % 5 = 0
  · have e1 := hget 1 (.int .i64 (A.slt (i + 1)).cnt) rfl
    repeat (first | refine sp ?_ | (refine is_load ?_; refine ld ?_) | (refine is_alloc ?_; refine al ?_) | (refine is_box ?_; refine bx ?_) | (refine isl_load ?_; refine ldl ?_) | (refine isl_alloc ?_; refine all' ?_) | (refine isl_box ?_; refine bxl ?_) | refine dr Try.follows ?_)
    refine go_as 69 (u' := .int .i64 (w64 ((A.slt (i + 1)).cnt + b))) rfl (by rfl) ?_
    repeat (first | refine sp ?_ | (refine is_load ?_; refine ld ?_) | (refine is_alloc ?_; refine al ?_) | (refine is_box ?_; refine bx ?_) | (refine isl_load ?_; refine ldl ?_) | (refine isl_alloc ?_; refine all' ?_) | (refine isl_box ?_; refine bxl ?_) | refine dr Try.follows ?_)
    refine go_store rfl rfl (st_at hat5 (by omega) rfl) ?_
    rw [hset 1 (.int .i64 (w64 ((A.slt (i + 1)).cnt + b))) ((A.slt (i + 1)).wc (w64 ((A.slt (i + 1)).cnt + b))) (by omega) rfl]
    have hdp' := hdpS (w6.setRow g5 ((A.dump.slots.set i ((A.slt (i + 1)).wc (w64 ((A.slt (i + 1)).cnt + b)))).flatMap Slt.cells ++ C5).toArray) _ (hat5.setRow _) (OwnN.setRow hO6 hat5 (by decide) _)
    have hok' := hsetok ((A.slt (i + 1)).wc (w64 ((A.slt (i + 1)).cnt + b))) rfl rfl
    have hne := dmg_count g.snd (fun i _ => rfl) hcb hic hb1 hb2
    have hx1k := Fr.setRow hx16 ((A.dump.slots.set i ((A.slt (i + 1)).wc (w64 ((A.slt (i + 1)).cnt + b)))).flatMap Slt.cells ++ C5).toArray (Or.inr hx1g)
    repeat (first | refine sp ?_ | (refine is_load ?_; refine ld ?_) | (refine is_store ?_; refine sr ?_) | (refine is_alloc ?_; refine al ?_) | (refine is_box ?_; refine bx ?_) | (refine isl_load ?_; refine ldl ?_) | (refine isl_store ?_; refine srl ?_) | (refine isl_alloc ?_; refine all' ?_) | (refine isl_box ?_; refine bxl ?_))
    refine go_call rfl rfl (a_Check _ 0 w1.heap.size _ _ _ H hdp' hok' (hhr.ext hx1k) hx1k.size (by omega) hrb) ?_
    rintro f1 w10 ⟨P2, lo3, hlo3, hf1, hP2, hx10⟩
    have hpos := hne P2
    unfold OwnF at hf1
    obtain ⟨f1s, f1c, rfl, _, _⟩ := hf1.slice
    repeat (first | refine sp ?_ | (refine is_load ?_; refine ld ?_) | (refine is_store ?_; refine sr ?_) | (refine is_alloc ?_; refine al ?_) | (refine is_box ?_; refine bx ?_) | (refine isl_load ?_; refine ldl ?_) | (refine isl_store ?_; refine srl ?_) | (refine isl_alloc ?_; refine all' ?_) | (refine isl_box ?_; refine bxl ?_))
    exact go_ret1 rfl rfl ⟨_, rfl, rfl, (hx1.trans hx1k).trans hx10⟩
  by_cases k1 : kd % 5 = 1
  · have e0 := hget 0 (.bool (A.used (i + 1))) rfl
    cases hu : A.used (i + 1) with
    | false =>
      rw [hu] at e0
      repeat (first | refine sp ?_ | (refine is_load ?_; refine ld ?_) | (refine is_alloc ?_; refine al ?_) | (refine is_box ?_; refine bx ?_) | (refine isl_load ?_; refine ldl ?_) | (refine isl_alloc ?_; refine all' ?_) | (refine isl_box ?_; refine bxl ?_) | refine dr Try.follows ?_)
      exact go_ret1 rfl rfl ⟨_, rfl, rfl, hx1.trans hx16⟩
    | true =>
      rw [hu] at e0
      have e1 : (A.dump.slots.flatMap Slt.cells ++ C5)[0 + i * 11 + 3 + 4]? = some (.int .i64 (A.slt (i + 1)).nd.size) := by
        rw [show 0 + i * 11 + 3 + 4 = 0 + i * 11 + 7 by omega]; exact hget 7 _ rfl
      repeat (first | refine sp ?_ | (refine is_load ?_; refine ld ?_) | (refine is_alloc ?_; refine al ?_) | (refine is_box ?_; refine bx ?_) | (refine isl_load ?_; refine ldl ?_) | (refine isl_alloc ?_; refine all' ?_) | (refine isl_box ?_; refine bxl ?_) | refine dr Try.follows ?_)
      refine go_as 87 (u' := .int .i64 (w64 ((A.slt (i + 1)).nd.size + b))) rfl (by rfl) ?_
      repeat (first | refine sp ?_ | (refine is_load ?_; refine ld ?_) | (refine is_alloc ?_; refine al ?_) | (refine is_box ?_; refine bx ?_) | (refine isl_load ?_; refine ldl ?_) | (refine isl_alloc ?_; refine all' ?_) | (refine isl_box ?_; refine bxl ?_) | refine dr Try.follows ?_)
      refine go_store rfl rfl (st_at hat5 (by omega) rfl) ?_
      rw [show 0 + i * 11 + 3 + 4 = 0 + i * 11 + 7 by omega, hset 7 (.int .i64 (w64 ((A.slt (i + 1)).nd.size + b))) ((A.slt (i + 1)).ws (w64 ((A.slt (i + 1)).nd.size + b))) (by omega) rfl]
      have hdp' := hdpS (w6.setRow g5 ((A.dump.slots.set i ((A.slt (i + 1)).ws (w64 ((A.slt (i + 1)).nd.size + b)))).flatMap Slt.cells ++ C5).toArray) _ (hat5.setRow _) (OwnN.setRow hO6 hat5 (by decide) _)
      have hok' := hsetok ((A.slt (i + 1)).ws (w64 ((A.slt (i + 1)).nd.size + b))) rfl rfl
      have hne := dmg_size g.snd (fun i _ => rfl) hcb hic hb1 hb2 hu
      have hx1k := Fr.setRow hx16 ((A.dump.slots.set i ((A.slt (i + 1)).ws (w64 ((A.slt (i + 1)).nd.size + b)))).flatMap Slt.cells ++ C5).toArray (Or.inr hx1g)
      repeat (first | refine sp ?_ | (refine is_load ?_; refine ld ?_) | (refine is_store ?_; refine sr ?_) | (refine is_alloc ?_; refine al ?_) | (refine is_box ?_; refine bx ?_) | (refine isl_load ?_; refine ldl ?_) | (refine isl_store ?_; refine srl ?_) | (refine isl_alloc ?_; refine all' ?_) | (refine isl_box ?_; refine bxl ?_))
      refine go_call rfl rfl (a_Check _ 0 w1.heap.size _ _ _ H hdp' hok' (hhr.ext hx1k) hx1k.size (by omega) hrb) ?_
      rintro f1 w10 ⟨P2, lo3, hlo3, hf1, hP2, hx10⟩
      have hpos := hne P2
      unfold OwnF at hf1
      obtain ⟨f1s, f1c, rfl, _, _⟩ := hf1.slice
      repeat (first | refine sp ?_ | (refine is_load ?_; refine ld ?_) | (refine is_store ?_; refine sr ?_) | (refine is_alloc ?_; refine al ?_) | (refine is_box ?_; refine bx ?_) | (refine isl_load ?_; refine ldl ?_) | (refine isl_store ?_; refine srl ?_) | (refine isl_alloc ?_; refine all' ?_) | (refine isl_box ?_; refine bxl ?_))
      exact go_ret1 rfl rfl ⟨_, rfl, rfl, (hx1.trans hx1k).trans hx10⟩
  by_cases k2 : kd % 5 = 2
  · have e0 := hget 0 (.bool (A.used (i + 1))) rfl
    repeat (first | refine sp ?_ | (refine is_load ?_; refine ld ?_) | (refine is_alloc ?_; refine al ?_) | (refine is_box ?_; refine bx ?_) | (refine isl_load ?_; refine ldl ?_) | (refine isl_alloc ?_; refine all' ?_) | (refine isl_box ?_; refine bxl ?_) | refine dr Try.follows ?_)
    refine go_store rfl rfl (st_at hat5 (by omega) rfl) ?_
    rw [hset 0 (.bool (!A.used (i + 1))) (A.slt (i + 1)).wo (by omega) rfl]
    have hdp' := hdpS (w6.setRow g5 ((A.dump.slots.set i (A.slt (i + 1)).wo).flatMap Slt.cells ++ C5).toArray) _ (hat5.setRow _) (OwnN.setRow hO6 hat5 (by decide) _)
    have hok' := hsetok (A.slt (i + 1)).wo rfl rfl
    have hne := dmg_on g.snd (fun i _ => rfl) hcb hic
    have hx1k := Fr.setRow hx16 ((A.dump.slots.set i (A.slt (i + 1)).wo).flatMap Slt.cells ++ C5).toArray (Or.inr hx1g)
    repeat (first | refine sp ?_ | (refine is_load ?_; refine ld ?_) | (refine is_store ?_; refine sr ?_) | (refine is_alloc ?_; refine al ?_) | (refine is_box ?_; refine bx ?_) | (refine isl_load ?_; refine ldl ?_) | (refine isl_store ?_; refine srl ?_) | (refine isl_alloc ?_; refine all' ?_) | (refine isl_box ?_; refine bxl ?_))
    refine go_call rfl rfl (a_Check _ 0 w1.heap.size _ _ _ H hdp' hok' (hhr.ext hx1k) hx1k.size (by omega) hrb) ?_
    rintro f1 w10 ⟨P2, lo3, hlo3, hf1, hP2, hx10⟩
    have hpos := hne P2
    unfold OwnF at hf1
    obtain ⟨f1s, f1c, rfl, _, _⟩ := hf1.slice
    repeat (first | refine sp ?_ | (refine is_load ?_; refine ld ?_) | (refine is_store ?_; refine sr ?_) | (refine is_alloc ?_; refine al ?_) | (refine is_box ?_; refine bx ?_) | (refine isl_load ?_; refine ldl ?_) | (refine isl_store ?_; refine srl ?_) | (refine isl_alloc ?_; refine all' ?_) | (refine isl_box ?_; refine bxl ?_))
    exact go_ret1 rfl rfl ⟨_, rfl, rfl, (hx1.trans hx1k).trans hx10⟩
  by_cases k3 : kd % 5 = 3
  · cases hfr : A.dump.free with
    | nil =>
      rw [hfr] at hO6
      repeat (first | refine sp ?_ | (refine is_load ?_; refine ld ?_) | (refine is_store ?_; refine sr ?_) | (refine is_alloc ?_; refine al ?_) | (refine is_box ?_; refine bx ?_) | (refine isl_load ?_; refine ldl ?_) | (refine isl_store ?_; refine srl ?_) | (refine isl_alloc ?_; refine all' ?_) | (refine isl_box ?_; refine bxl ?_))
      exact go_ret1 rfl rfl ⟨_, rfl, rfl, hx1.trans hx16⟩
    | cons x t =>
      have hlf : A.dump.free.length = t.length + 1 := by rw [hfr]; rfl
      have hcut := RdU.cut (a := 1) (b := t.length + 1) hO6.rd.up (fun _ => rfl) (by decide) (by omega) (by omega)
      have ecut : (A.dump.free.take (t.length + 1)).drop 1 = t := by rw [hfr]; simp
      rw [ecut] at hcut
      have hrd := RdU.rd0 hcut (Nat.le_refl _)
      have hdp' : DpAt w6 0 (.agg ⟨[.slice (some ⟨g5, 0, none⟩) A.dump.slots.length c5, .slice (cutA fs 1 fc 1) (t.length + 1 - 1) (fc - 1)]⟩) ⟨A.dump.slots, t⟩ :=
        ⟨_, _, rfl, At.rdP (xs := A.dump.slots) hat5 rfl hc5 (Nat.zero_le _), hrd⟩
      have hok' : (⟨A.dump.slots, t⟩ : Dp).Ok := ⟨hok.len, by have := hok.flen; show t.length ≤ _; omega, hok.kid, fun j hj => hok.fr j (by rw [hfr]; simp [hj])⟩
      have hne := dmg_less g.snd H hfr
      have hx1k := hx16
      rw [hfr] at hfc
      simp only [List.length_cons] at hfc
      repeat (first | refine sp ?_ | (refine is_load ?_; refine ld ?_) | (refine is_store ?_; refine sr ?_) | (refine is_alloc ?_; refine al ?_) | (refine is_box ?_; refine bx ?_) | (refine isl_load ?_; refine ldl ?_) | (refine isl_store ?_; refine srl ?_) | (refine isl_alloc ?_; refine all' ?_) | (refine isl_box ?_; refine bxl ?_))
      refine go_p rfl (pr_sl (lo := 1) (hi := t.length + 1) (by decide) rfl ⟨_, _, rfl, rfl⟩ rfl (by omega) (by omega)) ?_
      repeat (first | refine sp ?_ | (refine is_load ?_; refine ld ?_) | (refine is_store ?_; refine sr ?_) | (refine is_alloc ?_; refine al ?_) | (refine is_box ?_; refine bx ?_) | (refine isl_load ?_; refine ldl ?_) | (refine isl_store ?_; refine srl ?_) | (refine isl_alloc ?_; refine all' ?_) | (refine isl_box ?_; refine bxl ?_))
      refine go_call rfl rfl (a_Check _ 0 w1.heap.size _ _ _ H hdp' hok' (hhr.ext hx1k) hx1k.size (by omega) hrb) ?_
      rintro f1 w10 ⟨P2, lo3, hlo3, hf1, hP2, hx10⟩
      have hpos := hne P2
      unfold OwnF at hf1
      obtain ⟨f1s, f1c, rfl, _, _⟩ := hf1.slice
      repeat (first | refine sp ?_ | (refine is_load ?_; refine ld ?_) | (refine is_store ?_; refine sr ?_) | (refine is_alloc ?_; refine al ?_) | (refine is_box ?_; refine bx ?_) | (refine isl_load ?_; refine ldl ?_) | (refine isl_store ?_; refine srl ?_) | (refine isl_alloc ?_; refine all' ?_) | (refine isl_box ?_; refine bxl ?_))
      exact go_ret1 rfl rfl ⟨_, rfl, rfl, (hx1.trans hx1k).trans hx10⟩
  · have k4 : kd % 5 = 4 := by omega
    repeat (first | refine sp ?_ | (refine is_load ?_; refine ld ?_) | (refine is_store ?_; refine sr ?_) | (refine is_alloc ?_; refine al ?_) | (refine is_box ?_; refine bx ?_) | (refine isl_load ?_; refine ldl ?_) | (refine isl_store ?_; refine srl ?_) | (refine isl_alloc ?_; refine all' ?_) | (refine isl_box ?_; refine bxl ?_))
    refine go_as 58 (u' := .int .u32 ((i + 1 : Nat) : Int)) rfl (by congr 1) ?_
    refine go_pushG (by decide) rfl rfl rfl rfl hO6 rfl (one_u32 _) (by omega) (by have := hok.flen; simp [maxLen]; omega) (by have := hok.flen; omega) hx6.size ?_
    intro v7 w7 ho7 hg7 hbk7
    have hx7 : Ext w5 w7 := ext_grown hx6 (Nat.le_refl _) hO6 hg7
    have hO7 : OwnN w7 w5.heap.size v7 (A.dump.free ++ [i + 1]) := by unfold OwnN; rw [List.map_append, List.length_append]; simpa using ho7
    have hat7 := hat5.fr (Fr.of_grown hg7) (hO6.nec' hat5 (by decide))
    have hx1k := hx15.trans hx7
    obtain ⟨fs7, fc7, rfl, hfc7, _⟩ := hO7.slice
    have hdp' : DpAt w7 0 (.agg ⟨[.slice (some ⟨g5, 0, none⟩) A.dump.slots.length c5, .slice fs7 (A.dump.free ++ [i + 1]).length fc7]⟩) ⟨A.dump.slots, A.dump.free ++ [i + 1]⟩ :=
      ⟨_, _, rfl, At.rdP (xs := A.dump.slots) hat7 rfl hc5 (Nat.zero_le _), hO7.rd.mono (Nat.zero_le _)⟩
    have hok' : (⟨A.dump.slots, A.dump.free ++ [i + 1]⟩ : Dp).Ok := ⟨hok.len, by have := order_len g.snd.wf; have h2 := rel_le g.snd.wf; have h3 := g.snd.wf.fr; have h4 := g.snd.wf.capM; show (A.order ++ [i + 1]).length ≤ _; rw [List.length_append, this]; unfold AR.free; simp; omega, hok.kid, fun j hj => by
      rcases List.mem_append.1 hj with hj | hj
      · exact hok.fr j hj
      · simp at hj; omega⟩
    have hne := dmg_more g.snd (fun i _ => rfl) hcb hic
    repeat (first | refine sp ?_ | (refine is_load ?_; refine ld ?_) | (refine is_store ?_; refine sr ?_) | (refine is_alloc ?_; refine al ?_) | (refine is_box ?_; refine bx ?_) | (refine isl_load ?_; refine ldl ?_) | (refine isl_store ?_; refine srl ?_) | (refine isl_alloc ?_; refine all' ?_) | (refine isl_box ?_; refine bxl ?_))
    refine go_call rfl rfl (a_Check _ 0 w1.heap.size _ _ _ H hdp' hok' (hhr.ext hx1k) hx1k.size (by omega) hrb) ?_
    rintro f1 w10 ⟨P2, lo3, hlo3, hf1, hP2, hx10⟩
    have hpos := hne P2
    unfold OwnF at hf1
    obtain ⟨f1s, f1c, rfl, _, _⟩ := hf1.slice
    repeat (first | refine sp ?_ | (refine is_load ?_; refine ld ?_) | (refine is_store ?_; refine sr ?_) | (refine is_alloc ?_; refine al ?_) | (refine is_box ?_; refine bx ?_) | (refine isl_load ?_; refine ldl ?_) | (refine isl_store ?_; refine srl ?_) | (refine isl_alloc ?_; refine all' ?_) | (refine isl_box ?_; refine bxl ?_))
    exact go_ret1 rfl rfl ⟨_, rfl, rfl, (hx1.trans hx1k).trans hx10⟩

end Go.Proofs.Ytapocbahkeoeoaa
