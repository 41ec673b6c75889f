/-
  A sound arena's dump has no findings.
-/
import Derived.Test.YtapocbahkeoeoaaCo
set_option linter.unusedVariables false
namespace Go.Proofs.Ytapocbahkeoeoaa
open Go.Vc

theorem dump_slots (A : AR) : A.dump.slots.length = A.cap := by simp [AR.dump]
theorem dump_get {A : AR} {k : Nat} (h : k < A.cap) : A.dump.slots[k]? = some (A.slt (k + 1)) := by
  simp [AR.dump, h]

theorem used_out {A : AR} (hw : Wf A) {i : Nat} (h : A.cap < i) : A.used i = false := by
  cases e : A.used i with
  | false => rfl
  | true => have := used_le hw e; omega
theorem dump_al {A : AR} (hw : Wf A) (i : Nat) : A.dump.al i = A.used i := by
  cases i with
  | zero => exact hw.u0.symm
  | succ k =>
    by_cases h : k < A.cap
    · simp only [Dp.al, dump_get h]; rfl
    · rw [used_out hw (by omega), Dp.al_out (by rw [dump_slots]; omega)]

theorem Sound.zn {A : AR} {h : Nat → Nat} (s : Sound A h) (i : Nat) : (A.node i).left ≤ A.cap ∧ (A.node i).right ≤ A.cap := by
  cases e : A.used i with
  | true => exact s.ok.ch i e
  | false => rw [s.zero i e]; exact ⟨Nat.zero_le _, Nat.zero_le _⟩

theorem Sound.dok {A : AR} {h : Nat → Nat} (s : Sound A h) : A.dump.Ok := by
  have hc := s.wf.capM
  refine ⟨by rw [dump_slots]; omega, ?_, fun x hx => ?_, fun i hi => ?_⟩
  · show A.order.length ≤ _
    rw [order_len s.wf]
    have := rel_le s.wf
    unfold AR.free; omega
  · obtain ⟨k, hk, rfl⟩ := List.mem_map.1 hx
    have := s.zn (k + 1)
    exact ⟨Nat.lt_of_le_of_lt this.1 (by omega), Nat.lt_of_le_of_lt this.2 (by omega)⟩
  · have hi : i ∈ A.rel.reverse ++ List.range' (A.fresh + 1) (A.cap - A.fresh) := hi
    rcases List.mem_append.1 hi with hi | hi
    · have := s.wf.rl i (by simpa using hi)
      have := s.wf.fr; omega
    · have := List.mem_range'_1.1 hi; omega

/-! ### Free slots -/

theorem order_count {A : AR} (hw : Wf A) {i : Nat} (h1 : 1 ≤ i) (h2 : i ≤ A.cap) : A.order.count i = if A.used i = true then 0 else 1 := by
  have hnd : A.order.Nodup := by
    refine List.nodup_append.2 ⟨List.pairwise_reverse.2 (List.Pairwise.imp Ne.symm hw.nd), List.nodup_range', ?_⟩
    intro a ha b hb e
    subst e
    have := hw.rl a (by simpa using ha)
    have := List.mem_range'_1.1 hb
    omega
  have hm : i ∈ A.order ↔ A.used i = false := by
    unfold AR.order
    rw [List.mem_append, List.mem_reverse, List.mem_range'_1]
    constructor
    · rintro (h | h)
      · exact (hw.rl i h).2.2
      · cases e : A.used i with
        | false => rfl
        | true => have := hw.uf i e; omega
    · intro h
      by_cases hf : i ≤ A.fresh
      · exact Or.inl (hw.al i h1 hf h)
      · right; omega
  cases e : A.used i with
  | true =>
    rw [if_pos rfl]
    exact List.count_eq_zero.2 fun h => by have := hm.1 h; rw [e] at this; cases this
  | false =>
    rw [if_neg (by decide)]
    rw [hnd.count, if_pos (hm.2 e)]

/-! ### Edges -/

theorem count_flat {α : Type} (f : α → List Nat) (i : Nat) : ∀ l : List α, (l.flatMap f).count i = (l.map fun a => (f a).count i).sum
  | [] => rfl
  | a :: l => by rw [List.flatMap_cons, List.count_append, List.map_cons, List.sum_cons, count_flat f i l]
theorem sum_range (f : Nat → Nat) : ∀ n, ((List.range n).map f).sum = sumTo f n
  | 0 => rfl
  | n + 1 => by rw [List.range_succ, List.map_append, List.sum_append, sum_range f n]; simp [sumTo]
theorem sumTo_shift (f : Nat → Nat) : ∀ n, sumTo f (n + 1) = f 0 + sumTo (fun k => f (k + 1)) n
  | 0 => by simp [sumTo]
  | n + 1 => by
    have := sumTo_shift f n
    simp only [sumTo] at this ⊢
    omega
theorem kds_edges {A : AR} (hw : Wf A) (i : Nat) : (kdsF A.dump.slots).count i = edges A i := by
  unfold kdsF edges
  rw [count_flat, sumTo_shift]
  have h0 : edge A 0 i = 0 := by unfold edge; rw [hw.u0]; rfl
  rw [h0, Nat.zero_add, ← sum_range]
  show ((List.map (fun k => A.slt (k + 1)) (List.range A.cap)).map _).sum = _
  rw [List.map_map]
  congr 1
  refine List.map_congr_left fun k _ => ?_
  show ((if A.used (k + 1) = true then (A.slt (k + 1)).kd else []).count i) = edge A (k + 1) i
  unfold edge
  cases A.used (k + 1) with
  | false => rfl
  | true =>
    rw [if_pos rfl, if_pos rfl]
    show [(A.node (k + 1)).left, (A.node (k + 1)).right].count i = _
    unfold eq01
    rw [List.count_cons, List.count_cons, List.count_nil]
    simp only [beq_iff_eq]
    omega

/-! ### Reachability -/

theorem edge_of_pos {A : AR} {i : Nat} (h : 0 < edges A i) : ∃ k, A.used k = true ∧ k ≤ A.cap ∧ ((A.node k).left = i ∨ (A.node k).right = i) := by
  unfold edges at h
  have key : ∀ n, 0 < sumTo (fun k => edge A k i) n → ∃ k, k < n ∧ 0 < edge A k i := by
    intro n
    induction n with
    | zero => intro h; simp [sumTo] at h
    | succ n ih =>
      intro h
      simp only [sumTo] at h
      by_cases h1 : 0 < sumTo (fun k => edge A k i) n
      · obtain ⟨k, a, b⟩ := ih h1; exact ⟨k, by omega, b⟩
      · exact ⟨n, by omega, by omega⟩
  obtain ⟨k, hk, he⟩ := key _ h
  unfold edge at he
  split at he
  · rename_i hu
    refine ⟨k, hu, by omega, ?_⟩
    unfold eq01 at he
    by_cases h1 : (A.node k).left = i
    · exact Or.inl h1
    · rw [if_neg h1] at he
      by_cases h2 : (A.node k).right = i
      · exact Or.inr h2
      · rw [if_neg h2] at he; omega
  · omega

theorem szOf_bd {A : AR} {h : Nat → Nat} (s : Sound A h) (c : Nat) (hc : c = 0 ∨ A.used c = true) : 0 ≤ (if c = 0 then 0 else (A.node c).size) ∧ (if c = 0 then 0 else (A.node c).size) ≤ 2147483647 := by
  split
  · omega
  · rename_i h0
    rcases hc with e | e
    · exact absurd e h0
    · have := s.ok.sz c e; omega

/-- A node is larger than its children. -/
theorem Sound.big {A : AR} {h : Nat → Nat} (s : Sound A h) {k : Nat} (hk : A.used k = true) :
    (A.node k).size = 1 + (if (A.node k).left = 0 then 0 else (A.node (A.node k).left).size) + (if (A.node k).right = 0 then 0 else (A.node (A.node k).right).size) := by
  obtain ⟨kl, kr⟩ := s.kid k hk
  have b1 := szOf_bd s _ kl
  have b2 := szOf_bd s _ kr
  have e := s.agg k hk
  have e2 := congrArg Nd.size e
  rw [e2]
  generalize (A.node k).left = l at *
  generalize (A.node k).right = r at *
  unfold mkN addC
  by_cases e1 : l = 0
  · by_cases e2 : r = 0
    · simp [e1, e2]
    · simp only [e1, e2, if_true, if_false] at b2 ⊢
      rw [w64_in (by omega)]; omega
  · by_cases e2 : r = 0
    · simp only [e1, e2, if_true, if_false] at b1 ⊢
      rw [w64_in (by omega)]; omega
    · simp only [e1, e2, if_false] at b1 b2 ⊢
      rw [w64_in (z := 1 + (A.node l).size) (by omega), w64_in (by omega)]

theorem Sound.reach {A : AR} {h : Nat → Nat} (s : Sound A h) {roots : List Nat} (hr : ∀ i, 1 ≤ i → roots.count i = h i) : ∀ (n : Nat) (i : Nat), A.used i = true → (2147483647 - (A.node i).size).toNat ≤ n → A.dump.Reach roots i := by
  intro n
  induction n with
  | zero =>
    intro i hi hn
    have h1 := (s.wf.uf i hi).1
    have hp := s.pos i hi
    by_cases hh : 0 < h i
    · exact .root (List.count_pos_iff.1 (by rw [hr i h1]; exact hh)) (by rw [dump_al s.wf]; exact hi)
    · obtain ⟨k, hk, hkc, hki⟩ := edge_of_pos (A := A) (i := i) (by omega)
      have hb := s.big hk
      obtain ⟨kl, kr⟩ := s.kid k hk
      have b1 := szOf_bd s _ kl
      have b2 := szOf_bd s _ kr
      have := s.ok.sz k hk
      have := s.ok.sz i hi
      rcases hki with rfl | rfl
      · rw [if_neg (by omega)] at hb; omega
      · rw [if_neg (c := (A.node k).right = 0) (by omega)] at hb; omega
  | succ n ih =>
    intro i hi hn
    have h1 := (s.wf.uf i hi).1
    have hp := s.pos i hi
    by_cases hh : 0 < h i
    · exact .root (List.count_pos_iff.1 (by rw [hr i h1]; exact hh)) (by rw [dump_al s.wf]; exact hi)
    · obtain ⟨k, hk, hkc, hki⟩ := edge_of_pos (A := A) (i := i) (by omega)
      have hb := s.big hk
      obtain ⟨kl, kr⟩ := s.kid k hk
      have b1 := szOf_bd s _ kl
      have b2 := szOf_bd s _ kr
      have hk1 := (s.wf.uf k hk).1
      have := s.ok.sz k hk
      have := s.ok.sz i hi
      have hlt : (A.node i).size < (A.node k).size := by
        rcases hki with rfl | rfl
        · rw [if_neg (by omega)] at hb; omega
        · rw [if_neg (c := (A.node k).right = 0) (by omega)] at hb; omega
      have hR := ih k hk (by omega)
      refine .kid hR ?_ (by rw [dump_al s.wf]; exact hi)
      obtain ⟨j, rfl⟩ : ∃ j, k = j + 1 := ⟨k - 1, by omega⟩
      simp only [Dp.kd, dump_get (show j < A.cap by omega)]
      show i ∈ [(A.node (j + 1)).left, (A.node (j + 1)).right]
      simp only [List.mem_cons, List.not_mem_nil, or_false]
      rcases hki with h | h
      · exact Or.inl h.symm
      · exact Or.inr h.symm

/-! ### No findings -/

theorem dump_szAt {A : AR} {c : Nat} (h1 : 1 ≤ c) (h2 : c ≤ A.cap) : A.dump.szAt c = (A.node c).size := by
  obtain ⟨j, rfl⟩ : ∃ j, c = j + 1 := ⟨c - 1, by omega⟩
  simp only [Dp.szAt, dump_get (show j < A.cap by omega)]; rfl

theorem Sound.clean {A : AR} {h : Nat → Nat} (s : Sound A h) {roots : List Nat} (hr : ∀ i, 1 ≤ i → roots.count i = h i) {P : Nat → Bool} (hP : Marks A.dump roots P) : finds A.dump roots P = [] := by
  have hsl : fdSlots A.dump roots P A.dump.slots.length = [] := by
    unfold fdSlots
    rw [List.flatMap_eq_nil_iff]
    intro k hk
    rw [dump_slots] at hk
    have hk := List.mem_range.1 hk
    rw [dump_get hk]
    show fdSlot A.dump roots P k (A.slt (k + 1)) = []
    have hon : (A.slt (k + 1)).on = A.used (k + 1) := rfl
    have f1 : fdFree A.dump k (A.slt (k + 1)) = [] := by
      unfold fdFree
      rw [if_pos]
      rw [hon, show A.dump.free = A.order from rfl, order_count s.wf (by omega) (by omega)]
      split <;> rfl
    cases hu : A.used (k + 1) with
    | false =>
      have f2 : fdMid A.dump k (A.slt (k + 1)) = [] := by unfold fdMid; rw [hon, hu]; rfl
      have f3 : fdCnt A.dump roots k (A.slt (k + 1)) = [] := by
        unfold fdCnt wantC
        rw [hon, hu, if_pos]
        show (0 : Int) = A.countOf (k + 1)
        unfold AR.countOf; rw [hu]; rfl
      have f4 : fdLeak P k (A.slt (k + 1)) = [] := by unfold fdLeak; rw [hon, hu]; rfl
      unfold fdSlot
      rw [f1, f2, f3, f4]; rfl
    | true =>
      obtain ⟨kl, kr⟩ := s.kid (k + 1) hu
      have hkid : ∀ c, c = 0 ∨ A.used c = true → fdKid A.dump (k + 1) c = [] := fun c hc => by
        unfold fdKid
        rw [dump_al s.wf]
        rcases hc with e | e
        · subst e; rw [s.wf.u0]; rfl
        · rw [e]; rfl
      have hsz : ∀ z c, c = 0 ∨ A.used c = true → szAdd A.dump z c = if c = 0 then z else w64 (z + (A.node c).size) := fun z c hc => by
        unfold szAdd
        rw [dump_al s.wf]
        rcases hc with e | e
        · subst e; rw [s.wf.u0]; rfl
        · have := used_le s.wf e
          rw [e, if_pos rfl, if_neg (by omega), dump_szAt this.1 this.2]
      have hS : szK A.dump (A.slt (k + 1)) 2 = (A.node (k + 1)).size := by
        show szAdd A.dump (szAdd A.dump 1 (A.node (k + 1)).left) (A.node (k + 1)).right = _
        rw [hsz _ _ kl, hsz _ _ kr, s.big hu]
        have b1 := szOf_bd s _ kl
        have b2 := szOf_bd s _ kr
        by_cases e1 : (A.node (k + 1)).left = 0
        · by_cases e2 : (A.node (k + 1)).right = 0
          · simp [e1, e2]
          · simp only [e1, e2, if_true, if_false] at b2 ⊢
            rw [w64_in (by omega)]; omega
        · by_cases e2 : (A.node (k + 1)).right = 0
          · simp only [e1, e2, if_true, if_false] at b1 ⊢
            rw [w64_in (by omega)]; omega
          · simp only [e1, e2, if_false] at b1 b2 ⊢
            rw [w64_in (z := 1 + (A.node (A.node (k + 1)).left).size) (by omega), w64_in (by omega)]
      have f2 : fdMid A.dump k (A.slt (k + 1)) = [] := by
        unfold fdMid
        rw [hon, hu, if_pos rfl]
        have a1 : fdK A.dump (k + 1) (A.slt (k + 1)) 2 = [] := by
          show (fdKid A.dump (k + 1) (A.node (k + 1)).left ++ (fdKid A.dump (k + 1) (A.node (k + 1)).right ++ [])) = []
          rw [hkid _ kl, hkid _ kr]; rfl
        have a2 : fdSize A.dump k (A.slt (k + 1)) = [] := by
          unfold fdSize
          rw [if_pos]
          exact hS
        rw [a1, a2]; rfl
      have f3 : fdCnt A.dump roots k (A.slt (k + 1)) = [] := by
        unfold fdCnt wantC
        rw [hon, hu, if_pos rfl, kds_edges s.wf, hr (k + 1) (by omega), if_pos]
        show _ = A.countOf (k + 1)
        unfold AR.countOf
        rw [hu, if_pos rfl, s.cnt (k + 1) hu]
        simp
      have f4 : fdLeak P k (A.slt (k + 1)) = [] := by
        unfold fdLeak
        rw [if_neg]
        rintro ⟨_, hp⟩
        have := (hP k (by rw [dump_slots]; omega)).2 (s.reach hr _ (k + 1) hu (Nat.le_refl _))
        rw [hp] at this; cases this
      unfold fdSlot
      rw [f1, f2, f3, f4]; rfl
  have hfr : A.dump.free.flatMap (fdRange A.dump) = [] := by
    rw [List.flatMap_eq_nil_iff]
    intro i hi
    have hi : i ∈ A.rel.reverse ++ List.range' (A.fresh + 1) (A.cap - A.fresh) := hi
    unfold fdRange
    rw [dump_slots, if_neg]
    have := s.wf.fr
    rcases List.mem_append.1 hi with hi | hi
    · have := s.wf.rl i (by simpa using hi); omega
    · have := List.mem_range'_1.1 hi; omega
  have hrt : roots.flatMap (fdRoot A.dump) = [] := by
    rw [List.flatMap_eq_nil_iff]
    intro r hrm
    unfold fdRoot
    rw [if_neg]
    rintro ⟨h0, ha⟩
    rw [dump_al s.wf] at ha
    have h1 := List.count_pos_iff.2 hrm
    rw [hr r (by omega), s.hz r (by omega) ha] at h1
    omega
  unfold finds
  rw [hsl, hfr, hrt]; rfl

/-! ### The program -/

theorem c_Clean (w : World) (lo0 hi : Nat) (v rv : Value) (A : AR) (h : Nat → Nat) (roots : List Nat) (hd : DpAt w lo0 v A.dump) (s : Sound A h) (hr : RdU w hi rv u32c roots) (hh : hi ≤ w.heap.size) (hrl : roots.length ≤ 1000000) (hrb : ∀ x ∈ roots, x < 4294967296) (hc : ∀ i, 1 ≤ i → roots.count i = h i) :
    Calls Try.prog 77 [v, rv].toArray w (Ret fun r w' => r = .bool true ∧ Ext w w') := by
  have hd0 := hd
  obtain ⟨sv, fv, rfl, _, _⟩ := hd
  refine calls_go Try.func77 rfl Try.ntmps77 (Nat.le_of_ble_eq_true rfl) ?_
  repeat (first | refine sp ?_ | (refine is_load ?_; refine ld ?_) | (refine is_store ?_; refine sr ?_) | (refine is_alloc ?_; refine al ?_) | (refine is_box ?_; refine bx ?_) | (refine isl_load ?_; refine ldl ?_) | (refine isl_store ?_; refine srl ?_) | (refine isl_alloc ?_; refine all' ?_) | (refine isl_box ?_; refine bxl ?_))
  refine go_call rfl rfl (c_Check _ lo0 hi _ _ A.dump roots (hd0.ext (by (repeat (first | exact Fr.refl _ _ | assumption | apply Fr.drewN | apply Fr.alloc | (apply Fr.transF; assumption) | (refine Fr.setRow ?_ _ (by first | exact Or.inr (by (first | omega | (simp; done) | (simp; omega))) | (exact Or.inl (by first | assumption | (simp; done))))))))) s.dok (hr.ext (by (repeat (first | exact Fr.refl _ _ | assumption | apply Fr.drewN | apply Fr.alloc | (apply Fr.transF; assumption) | (refine Fr.setRow ?_ _ (by first | exact Or.inr (by (first | omega | (simp; done) | (simp; omega))) | (exact Or.inl (by first | assumption | (simp; done))))))))) (by simp; omega) hrl hrb) ?_
  rintro fv w1 ⟨P, lo, hlo, ho, hP, hx⟩
  rw [s.clean hc hP] at ho
  unfold OwnF at ho
  obtain ⟨s3, c3, rfl, _, _⟩ := ho.slice
  repeat (first | refine sp ?_ | (refine is_load ?_; refine ld ?_) | (refine is_store ?_; refine sr ?_) | (refine is_alloc ?_; refine al ?_) | (refine is_box ?_; refine bx ?_) | (refine isl_load ?_; refine ldl ?_) | (refine isl_store ?_; refine srl ?_) | (refine isl_alloc ?_; refine all' ?_) | (refine isl_box ?_; refine bxl ?_))
  exact go_ret1 rfl rfl ⟨_, rfl, rfl, Fr.trans (by (repeat (first | exact Fr.refl _ _ | assumption | apply Fr.drewN | apply Fr.alloc | (apply Fr.transF; assumption) | (refine Fr.setRow ?_ _ (by first | exact Or.inr (by (first | omega | (simp; done) | (simp; omega))) | (exact Or.inl (by first | assumption | (simp; done)))))))) hx⟩

theorem c_KSound (w : World) (lo p hi : Nat) (q : AP) (rv : Value) (A : AR) (h : Nat → Nat) (roots : List Nat) (ha : ArP w lo p q A) (s : Sound A h) (hr : RdU w hi rv u32c roots) (hh : hi ≤ w.heap.size) (hrl : roots.length ≤ 1000000) (hrb : ∀ x ∈ roots, x < 4294967296) (hc : ∀ i, 1 ≤ i → roots.count i = h i) :
    Calls Try.prog 43 [ptr p, rv].toArray w (Ret fun r w' => r = .bool true ∧ Ext w w') := by
  refine calls_go Try.func43 rfl Try.ntmps43 (Nat.le_of_ble_eq_true rfl) ?_
  repeat (first | refine sp ?_ | (refine is_load ?_; refine ld ?_) | (refine is_store ?_; refine sr ?_) | (refine is_alloc ?_; refine al ?_) | (refine is_box ?_; refine bx ?_) | (refine isl_load ?_; refine ldl ?_) | (refine isl_store ?_; refine srl ?_) | (refine isl_alloc ?_; refine all' ?_) | (refine isl_box ?_; refine bxl ?_))
  refine go_call rfl rfl (p_Dump w lo p q A ha) ?_
  rintro dv w1 ⟨hd, hx⟩
  repeat (first | refine sp ?_ | (refine is_load ?_; refine ld ?_) | (refine is_store ?_; refine sr ?_) | (refine is_alloc ?_; refine al ?_) | (refine is_box ?_; refine bx ?_) | (refine isl_load ?_; refine ldl ?_) | (refine isl_store ?_; refine srl ?_) | (refine isl_alloc ?_; refine all' ?_) | (refine isl_box ?_; refine bxl ?_))
  refine go_call rfl rfl (c_Clean w1 w.heap.size hi dv rv A h roots hd s (hr.ext hx) (Nat.le_trans hh hx.size) hrl hrb hc) ?_
  rintro _ w2 ⟨rfl, hx2⟩
  repeat (first | refine sp ?_ | (refine is_load ?_; refine ld ?_) | (refine is_store ?_; refine sr ?_) | (refine is_alloc ?_; refine al ?_) | (refine is_box ?_; refine bx ?_) | (refine isl_load ?_; refine ldl ?_) | (refine isl_store ?_; refine srl ?_) | (refine isl_alloc ?_; refine all' ?_) | (refine isl_box ?_; refine bxl ?_))
  exact go_ret1 rfl rfl ⟨_, rfl, rfl, hx.trans hx2⟩

end Go.Proofs.Ytapocbahkeoeoaa
