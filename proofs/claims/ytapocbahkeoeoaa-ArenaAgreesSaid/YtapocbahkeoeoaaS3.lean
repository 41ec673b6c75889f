/-
  The program's allocator of slots: what its writers do.
-/
import Derived.Test.YtapocbahkeoeoaaS2
set_option linter.unusedVariables false
namespace Go.Vc

theorem Own.block1 {w : World} {lo : Nat} {e : TypeId} {v : Value} {n : Nat} {xs : List Value} (h : Own w lo e 1 v n xs) (hn : 0 < n) :
    ∃ g cap C, v = .slice (some ⟨g, 0, none⟩) n cap ∧ lo ≤ g ∧ At w g (xs ++ C) e ∧ n ≤ cap ∧ cap ≤ maxLen ∧ xs.length + C.length = cap ∧ xs.length = n := by
  have hl : xs.length = n := by simpa using h.1
  rcases h.2 with ⟨_, h0⟩ | ⟨g, cap, cur, hv, hg, hh, hn', hc, hs, ht⟩
  · omega
  · refine ⟨g, cap, cur.toList.drop n, hv, hg, ⟨?_⟩, hn', hc, ?_, hl⟩
    · rw [← ht, Nat.mul_one, List.take_append_drop]
      simpa using hh
    · simp; omega

theorem Own.of_block1 {w : World} {lo g cap n : Nat} {e : TypeId} {xs C : List Value} (hn : n = xs.length) (hg : lo ≤ g) (ha : At w g (xs ++ C) e) (hc : cap ≤ maxLen) (hs : xs.length + C.length = cap) :
    Own w lo e 1 (.slice (some ⟨g, 0, none⟩) n cap) n xs := by
  subst hn
  refine ⟨by simp, Or.inr ⟨g, cap, _, rfl, hg, ha.h, by omega, hc, ?_, ?_⟩⟩
  · simp; omega
  · simp

theorem one_set' {α : Type} (g : α → Value) (f : Nat → α) {i n : Nat} {x : α} (hi : i < n) : (cellsF (fun j => [g (f j)]) n).set i (g x) = cellsF (fun j => [g (upd f i x j)]) n := by
  rw [one_set (f := fun j => g (f j)) hi]
  refine cellsF_congr fun j _ => ?_
  unfold upd; split <;> rfl

attribute [simp] one_len

theorem wrap_u32 (n : Nat) : IntKind.u32.wrap ((n : Int) + 1) = (((n + 1) % 4294967296 : Nat) : Int) := by
  simp [IntKind.wrap, IntKind.bits, IntKind.signed]

end Go.Vc
namespace Go.Proofs.Ytapocbahkeoeoaa
open Go.Vc

theorem Wf.top_bd {A : AR} (h : Wf A) (hf : A.free ≠ 0) : 1 ≤ A.top ∧ A.top ≤ A.cap ∧ A.used A.top = false := by
  unfold AR.top
  cases e : A.rel.getLast? with
  | none =>
    have h1 : A.rel = [] := List.getLast?_eq_none_iff.1 e
    have h2 : A.fresh < A.cap := by
      unfold AR.free at hf
      have := h.fr
      rw [h1] at hf
      simp at hf; omega
    refine ⟨by simp, by simp only []; omega, ?_⟩
    cases e2 : A.used (A.fresh + 1) with
    | false => rfl
    | true => have := h.uf _ e2; omega
  | some i =>
    have h1 := h.rl i (List.mem_of_getLast? e)
    have := h.fr
    exact ⟨by simp only []; omega, by simp only []; omega, h1.2.2⟩

theorem rel_snoc {A : AR} (h : A.rel ≠ []) : A.rel = A.rel.dropLast ++ [A.top] := by
  have e1 := List.getLast?_eq_some_getLast h
  have e2 : A.top = A.rel.getLast h := by unfold AR.top; rw [e1]
  rw [e2]
  exact (List.dropLast_concat_getLast h).symm

theorem cutA0 (g m cap : Nat) : cutA (some ⟨g, 0, none⟩) m cap 0 = some ⟨g, 0, none⟩ := by
  unfold cutA
  split
  · rfl
  · simp [addr_add]

theorem Wf.take {A : AR} (h : Wf A) (hf : A.free ≠ 0) : Wf A.take := by
  obtain ⟨t1, t2, t3⟩ := h.top_bd hf
  have hfr := h.fr
  have htop : A.rel = [] ∧ A.top = A.fresh + 1 ∨ A.rel ≠ [] ∧ A.rel = A.rel.dropLast ++ [A.top] := by
    unfold AR.top
    cases e : A.rel.getLast? with
    | none => exact Or.inl ⟨List.getLast?_eq_none_iff.1 e, rfl⟩
    | some i =>
      right
      have hne : A.rel ≠ [] := fun e2 => by rw [e2] at e; cases e
      refine ⟨hne, ?_⟩
      have := List.dropLast_concat_getLast hne
      rw [List.getLast?_eq_some_getLast hne] at e
      simp only [Option.some.injEq] at e
      simp only [← e]
      exact this.symm
  refine ⟨h.cap1, h.capM, ?_, ?_, ?_, ?_, ?_, ?_⟩
  · simp only [AR.take]
    split
    · rename_i e
      rcases htop with ⟨_, e2⟩ | ⟨h2, _⟩
      · omega
      · exact absurd e h2
    · exact hfr
  · intro i hi
    simp only [AR.take] at hi ⊢
    have hne : A.rel ≠ [] := fun e => by rw [e] at hi; cases hi
    rcases htop with ⟨e, _⟩ | ⟨_, h2⟩
    · exact absurd e hne
    · have hm : i ∈ A.rel := List.dropLast_subset _ hi
      have hr := h.rl i hm
      have hd := h.nd
      rw [h2] at hd
      have hit : i ≠ A.top := by
        rintro rfl
        exact (List.nodup_append.1 hd).2.2 _ hi _ (by simp) rfl
      rw [if_neg hne, upd_ne _ _ hit]
      exact hr
  · simp only [AR.take]
    exact h.nd.sublist (List.dropLast_sublist _)
  · intro i hi
    simp only [AR.take] at hi ⊢
    by_cases e : i = A.top
    · subst e
      split
      · rename_i e
        rcases htop with ⟨_, e2⟩ | ⟨h2, _⟩
        · omega
        · exact absurd e h2
      · rename_i e
        rcases htop with ⟨e2, _⟩ | ⟨_, h2⟩
        · exact absurd e2 e
        · have := h.rl A.top (by rw [h2]; simp)
          omega
    · rw [upd_ne _ _ e] at hi
      have := h.uf i hi
      split <;> omega
  · intro i h1 h2 h3
    simp only [AR.take] at h1 h2 h3 ⊢
    by_cases e : i = A.top
    · subst e; rw [upd_same] at h3; cases h3
    · rw [upd_ne _ _ e] at h3
      rcases htop with ⟨e2, e3⟩ | ⟨h4, h5⟩
      · rw [if_pos e2] at h2
        have := h.al i h1 (by omega) h3
        rw [e2] at this; cases this
      · rw [if_neg h4] at h2
        have := h.al i h1 h2 h3
        rw [h5] at this
        rcases List.mem_append.1 this with h6 | h6
        · exact h6
        · simp at h6; exact absurd h6 e
  · intro i
    simp only [AR.take]
    unfold upd
    split
    · exact Nat.mod_lt _ (by decide)
    · exact h.gn i

theorem c_slAllocF (w : World) (lo : Nat) (q : AP) (A : AR) (h : SlAt w lo q A) (hf : A.free = 0) :
    Calls Try.prog 60 [.pointer (some ⟨q.s, 0, none⟩)].toArray w (Ret fun r w' => r = .tuple #[.int .u32 0, .int .i64 2] ∧ Ext w w') := by
  refine calls_go Try.func60 rfl Try.ntmps60 (Nat.le_of_ble_eq_true rfl) ?_
  repeat (first | refine sp ?_ | (refine is_load ?_; refine ld ?_) | (refine is_store ?_; refine sr ?_) | (refine is_alloc ?_; refine al ?_) | (refine is_box ?_; refine bx ?_) | (refine isl_load ?_; refine ldl ?_) | (refine isl_store ?_; refine srl ?_) | (refine isl_alloc ?_; refine all' ?_) | (refine isl_box ?_; refine bxl ?_) | refine dr Try.follows ?_)
  refine go_call rfl rfl (c_slFree w lo q A h) ?_
  rintro r w1 ⟨rfl, hx⟩
  rw [hf]
  repeat (first | refine sp ?_ | (refine is_load ?_; refine ld ?_) | (refine is_store ?_; refine sr ?_) | (refine is_alloc ?_; refine al ?_) | (refine is_box ?_; refine bx ?_) | (refine isl_load ?_; refine ldl ?_) | (refine isl_store ?_; refine srl ?_) | (refine isl_alloc ?_; refine all' ?_) | (refine isl_box ?_; refine bxl ?_) | refine dr Try.follows ?_)
  exact go_ret2 rfl rfl rfl ⟨_, rfl, rfl, hx⟩

set_option maxHeartbeats 1000000 in
theorem c_slAlloc (w : World) (lo : Nat) (q : AP) (A : AR) (h : SlAt w lo q A) (hf : A.free ≠ 0) :
    Calls Try.prog 60 [.pointer (some ⟨q.s, 0, none⟩)].toArray w (Ret fun r w' =>
      r = .tuple #[.int .u32 (A.top : Int), .int .i64 0] ∧
        ∃ rv, SlAt w' lo { q with rv := rv } A.take ∧ rv.ownBlock = q.rv.ownBlock ∧ Fr (fun b => b = q.s ∨ b = q.ub ∨ b = q.gb) w w') := by
  have hwf := h.wf
  have hcap := hwf.capM
  have hfr := hwf.fr
  have hrl := rel_le hwf
  have hs := h.hs
  unfold slC at hs
  have hfb : A.free ≤ 65536 := by unfold AR.free; omega
  refine calls_go Try.func60 rfl Try.ntmps60 (Nat.le_of_ble_eq_true rfl) ?_
  repeat (first | refine sp ?_ | (refine is_load ?_; refine ld ?_) | (refine is_store ?_; refine sr ?_) | (refine is_alloc ?_; refine al ?_) | (refine is_box ?_; refine bx ?_) | (refine isl_load ?_; refine ldl ?_) | (refine isl_store ?_; refine srl ?_) | (refine isl_alloc ?_; refine all' ?_) | (refine isl_box ?_; refine bxl ?_) | refine dr Try.follows ?_)
  refine go_call rfl rfl (c_slFree w lo q A h) ?_
  rintro r w1 ⟨rfl, hx⟩
  obtain ⟨t1, t2, t3⟩ := hwf.top_bd hf
  have h1 := h.ext hx
  have hs1 := h1.hs
  unfold slC at hs1
  have hu1 := h1.hu
  have hg1 := h1.hg
  have n1 := hs1.ne hu1 (by decide)
  have n2 := hs1.ne hg1 (by decide)
  have n3 := hu1.ne hg1 (by decide)
  have hwt := hwf.take hf
  have hgv : (cellsF (fun i => [Value.int .u32 (A.gen i : Int)]) (A.cap + 1))[0 + A.top]? = some (.int .u32 (A.gen A.top : Int)) := by
    rw [Nat.zero_add]; exact one_get (f := fun i => Value.int .u32 (A.gen i : Int)) (by omega)
  have hus : (cellsF (fun i => [Value.bool (A.used i)]) (A.cap + 1)).set (0 + A.top) (.bool true) = cellsF (fun i => [Value.bool (A.take.used i)]) (A.cap + 1) := by
    rw [Nat.zero_add]; exact one_set' Value.bool A.used (by omega)
  have hgs : (cellsF (fun i => [Value.int .u32 (A.gen i : Int)]) (A.cap + 1)).set (0 + A.top) (.int .u32 (IntKind.u32.wrap ((A.gen A.top : Int) + 1))) = cellsF (fun i => [Value.int .u32 (A.take.gen i : Int)]) (A.cap + 1) := by
    rw [Nat.zero_add, wrap_u32]; exact one_set' (fun n : Nat => Value.int .u32 (n : Int)) A.gen (by omega)
  by_cases hrel : A.rel = []
  · have hfresh : A.fresh < A.cap := by unfold AR.free at hf; rw [hrel] at hf; simp at hf; omega
    have htop : A.top = A.fresh + 1 := by unfold AR.top; rw [hrel]; rfl
    have hrv : q.rv = .slice none 0 0 ∨ ∃ g cap, q.rv = .slice (some ⟨g, 0, none⟩) 0 cap := by
      rcases h.hr.2 with ⟨e, _⟩ | ⟨g, cap, cur, e, _⟩
      · exact Or.inl e
      · rw [hrel] at e; exact Or.inr ⟨g, cap, e⟩
    obtain ⟨sv, cv, hrv⟩ : ∃ sv cv, q.rv = .slice sv 0 cv := by
      rcases hrv with e | ⟨g, cap, e⟩
      · exact ⟨_, _, e⟩
      · exact ⟨_, _, e⟩
    have hown := h1.hr
    rw [hrv] at hs1
    repeat (first | refine sp ?_ | (refine is_load ?_; refine ld ?_) | (refine is_store ?_; refine sr ?_) | (refine is_alloc ?_; refine al ?_) | (refine is_box ?_; refine bx ?_) | (refine isl_load ?_; refine ldl ?_) | (refine isl_store ?_; refine srl ?_) | (refine isl_alloc ?_; refine all' ?_) | (refine isl_box ?_; refine bxl ?_) | refine dr Try.follows ?_)
    refine go_as 4 (u' := .int .u32 (A.top : Int)) rfl (by rw [htop]; rfl) ?_
    refine go_as 48 (u' := .int .u32 (A.top : Int)) rfl (by rw [htop]; rfl) ?_
    repeat (first | refine sp ?_ | (refine is_load ?_; refine ld ?_) | (refine is_store ?_; refine sr ?_) | (refine is_alloc ?_; refine al ?_) | (refine is_box ?_; refine bx ?_) | (refine isl_load ?_; refine ldl ?_) | (refine isl_store ?_; refine srl ?_) | (refine isl_alloc ?_; refine all' ?_) | (refine isl_box ?_; refine bxl ?_) | refine dr Try.follows ?_)
    refine go_ret2 rfl rfl rfl ⟨_, rfl, rfl, q.rv, ⟨?_, ?_, ?_, ?_, h.hrg, hwt⟩, rfl, ?_⟩
    · have e : slC { q with rv := q.rv } A.take.cap A.take.fresh = [.slice (some ⟨q.ub, 0, none⟩) (A.cap + 1) (A.cap + 1), .slice (some ⟨q.gb, 0, none⟩) (A.cap + 1) (A.cap + 1), .slice sv 0 cv, .int .u32 ((A.fresh : Int) + 1)] := by
        simp [slC, AR.take, hrel, hrv]
      rw [e]
      (repeat (first | assumption | (refine At.new' (by (first | omega | (simp; done) | (simp; omega))) _ _) | apply At.alloc | apply At.drewN | apply At.setRow | (apply At.setRow_neF; first | assumption | (apply Ne.symm; assumption) | omega) | (apply At.extF; assumption)))
    · show At _ q.ub (cellsF (fun i => [Value.bool (A.take.used i)]) (A.cap + 1)) _
      rw [← hus]; (repeat (first | assumption | (refine At.new' (by (first | omega | (simp; done) | (simp; omega))) _ _) | apply At.alloc | apply At.drewN | apply At.setRow | (apply At.setRow_neF; first | assumption | (apply Ne.symm; assumption) | omega) | (apply At.extF; assumption)))
    · show At _ q.gb (cellsF (fun i => [Value.int .u32 (A.take.gen i : Int)]) (A.cap + 1)) _
      rw [← hgs]; (repeat (first | assumption | (refine At.new' (by (first | omega | (simp; done) | (simp; omega))) _ _) | apply At.alloc | apply At.drewN | apply At.setRow | (apply At.setRow_neF; first | assumption | (apply Ne.symm; assumption) | omega) | (apply At.extF; assumption)))
    · have e : A.take.rel = A.rel := by simp [AR.take, hrel]
      rw [e]
      refine hown.of_heap fun g hg => ?_
      obtain ⟨C, hat⟩ := (hown.block_lt hg).2
      have m1 := hs1.ne hat (by decide)
      have m2 := hu1.ne hat (by decide)
      have m3 : q.gb ≠ g := fun e => h.hrg (by rw [e]; exact hg)
      rw [setRow_other _ _ _ _ (Ne.symm m3), setRow_other _ _ _ _ (Ne.symm m2), setRow_other _ _ _ _ (Ne.symm m1)]
    · refine Fr.trans' (Fr.of_ext hx) (S' := fun b => b = q.s ∨ b = q.ub ∨ b = q.gb) ?_ (fun b _ h => h)
      (repeat (first | exact Fr.refl _ _ | assumption | apply Fr.drewN | apply Fr.alloc | (apply Fr.transF; assumption) | (refine Fr.setRow ?_ _ (by first | exact Or.inr (by (first | omega | (simp; done) | (simp; omega))) | (exact Or.inl (by first | assumption | (simp; done)))))))
  · obtain ⟨g, cap, C, hrv, hlg, hga, hcc, hcm, hcl, hcn⟩ := h1.hr.block1 (List.length_pos_iff.2 hrel)
    have hsn := rel_snoc hrel
    obtain ⟨m, hm⟩ : ∃ m, A.rel.length = m + 1 := ⟨A.rel.length - 1, by have := List.length_pos_iff.2 hrel; omega⟩
    have hdl : A.rel.dropLast.length = m := by simp [hm]
    have htc : (A.rel.map (fun (i : Nat) => Value.int .u32 (i : Int)) ++ C)[0 + m]? = some (.int .u32 (A.top : Int)) := by
      rw [Nat.zero_add, List.getElem?_append_left (by rw [List.length_map]; omega), hsn, List.map_append, List.getElem?_append_right (by rw [List.length_map]; omega)]
      simp [hm]
    have m1 := hs1.ne hga (by decide)
    have m2 := hu1.ne hga (by decide)
    have m3 : q.gb ≠ g := fun e => h.hrg (by rw [e, hrv]; rfl)
    rw [hrv] at hs1
    rw [hm] at hcc hrv hs1
    repeat (first | refine sp ?_ | (refine is_load ?_; refine ld ?_) | (refine is_store ?_; refine sr ?_) | (refine is_alloc ?_; refine al ?_) | (refine is_box ?_; refine bx ?_) | (refine isl_load ?_; refine ldl ?_) | (refine isl_store ?_; refine srl ?_) | (refine isl_alloc ?_; refine all' ?_) | (refine isl_box ?_; refine bxl ?_) | refine dr Try.follows ?_)
    refine go_as 5 (u' := .int .i64 (m : Int)) rfl (by congr 1; omega) ?_
    refine go_as 21 (u' := .int .i64 (m : Int)) rfl (by congr 1; omega) ?_
    repeat (first | refine sp ?_ | (refine is_load ?_; refine ld ?_) | (refine is_store ?_; refine sr ?_) | (refine is_alloc ?_; refine al ?_) | (refine is_box ?_; refine bx ?_) | (refine isl_load ?_; refine ldl ?_) | (refine isl_store ?_; refine srl ?_) | (refine isl_alloc ?_; refine all' ?_) | (refine isl_box ?_; refine bxl ?_) | refine dr Try.follows ?_)
    refine go_p rfl (pr_sl (lo := 0) (hi := m) (by decide) rfl rfl ⟨_, _, rfl, rfl⟩ (by omega) (by omega)) ?_
    rw [cutA0]
    repeat (first | refine sp ?_ | (refine is_load ?_; refine ld ?_) | (refine is_store ?_; refine sr ?_) | (refine is_alloc ?_; refine al ?_) | (refine is_box ?_; refine bx ?_) | (refine isl_load ?_; refine ldl ?_) | (refine isl_store ?_; refine srl ?_) | (refine isl_alloc ?_; refine all' ?_) | (refine isl_box ?_; refine bxl ?_) | refine dr Try.follows ?_)
    refine go_ret2 rfl rfl rfl ⟨_, rfl, rfl, .slice (some ⟨g, 0, none⟩) m cap, ⟨?_, ?_, ?_, ?_, ?_, hwt⟩, ?_, ?_⟩
    · have e : slC { q with rv := .slice (some ⟨g, 0, none⟩) m cap } A.take.cap A.take.fresh = [.slice (some ⟨q.ub, 0, none⟩) (A.cap + 1) (A.cap + 1), .slice (some ⟨q.gb, 0, none⟩) (A.cap + 1) (A.cap + 1), .slice (some ⟨g, 0, none⟩) (m - 0) (cap - 0), .int .u32 (A.fresh : Int)] := by
        simp [slC, AR.take, hrel]
      rw [e]
      (repeat (first | assumption | (refine At.new' (by (first | omega | (simp; done) | (simp; omega))) _ _) | apply At.alloc | apply At.drewN | apply At.setRow | (apply At.setRow_neF; first | assumption | (apply Ne.symm; assumption) | omega) | (apply At.extF; assumption)))
    · show At _ q.ub (cellsF (fun i => [Value.bool (A.take.used i)]) (A.cap + 1)) _
      rw [← hus]; (repeat (first | assumption | (refine At.new' (by (first | omega | (simp; done) | (simp; omega))) _ _) | apply At.alloc | apply At.drewN | apply At.setRow | (apply At.setRow_neF; first | assumption | (apply Ne.symm; assumption) | omega) | (apply At.extF; assumption)))
    · show At _ q.gb (cellsF (fun i => [Value.int .u32 (A.take.gen i : Int)]) (A.cap + 1)) _
      rw [← hgs]; (repeat (first | assumption | (refine At.new' (by (first | omega | (simp; done) | (simp; omega))) _ _) | apply At.alloc | apply At.drewN | apply At.setRow | (apply At.setRow_neF; first | assumption | (apply Ne.symm; assumption) | omega) | (apply At.extF; assumption)))
    · have e : A.take.rel = A.rel.dropLast := rfl
      rw [e, hdl]
      refine Own.of_block1 (C := .int .u32 (A.top : Int) :: C) (by rw [List.length_map]; exact hdl.symm) hlg ?_ hcm (by rw [List.length_map] at hcl ⊢; simp [hdl]; omega)
      have e2 : A.rel.dropLast.map (fun (i : Nat) => Value.int .u32 (i : Int)) ++ .int .u32 (A.top : Int) :: C = A.rel.map (fun (i : Nat) => Value.int .u32 (i : Int)) ++ C := by
        conv => rhs; rw [hsn]
        simp
      rw [e2]
      (repeat (first | assumption | (refine At.new' (by (first | omega | (simp; done) | (simp; omega))) _ _) | apply At.alloc | apply At.drewN | apply At.setRow | (apply At.setRow_neF; first | assumption | (apply Ne.symm; assumption) | omega) | (apply At.extF; assumption)))
    · intro e
      simp only [Value.ownBlock, Option.some.injEq] at e
      exact m3 e.symm
    · rw [hrv]; rfl
    · refine Fr.trans' (Fr.of_ext hx) (S' := fun b => b = q.s ∨ b = q.ub ∨ b = q.gb) ?_ (fun b _ h => h)
      (repeat (first | exact Fr.refl _ _ | assumption | apply Fr.drewN | apply Fr.alloc | (apply Fr.transF; assumption) | (refine Fr.setRow ?_ _ (by first | exact Or.inr (by (first | omega | (simp; done) | (simp; omega))) | (exact Or.inl (by first | assumption | (simp; done)))))))

end Go.Proofs.Ytapocbahkeoeoaa
