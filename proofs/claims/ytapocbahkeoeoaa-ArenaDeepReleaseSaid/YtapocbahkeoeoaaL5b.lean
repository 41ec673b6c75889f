/-
  The law 'deep release'.
-/
import Derived.Test.YtapocbahkeoeoaaL5a
import Derived.Test.YtapocbahkeoeoaaS10
import Derived.Test.YtapocbahkeoeoaaMod
set_option linter.unusedVariables false
namespace Go.Proofs.Ytapocbahkeoeoaa
open Go.Vc

/-- A degenerate tree in the slots 1 to 'j'; 'n - j' slots were released, from above. -/
structure Chn (A : AR) (j : Nat) : Prop where
  used : ∀ l, 1 ≤ l → l ≤ j → A.used l = true
  cnt : ∀ l, 1 ≤ l → l ≤ j → A.cnt l = 1
  kid : ∀ l, 1 ≤ l → l ≤ j → kids (A.node l) = if l = 1 then [] else [l - 1]

theorem Chn.rel : ∀ (j : Nat) (A : AR), Chn A j → 1 ≤ j → ∃ B, RelN j A [j] B j ∧ B.rel = A.rel ++ (List.range' 1 j).reverse ∧ B.cap = A.cap ∧ B.fresh = A.fresh := by
  intro j
  induction j with
  | zero => intro A _ h; omega
  | succ j ih =>
    intro A h _
    have hc : (A.dec (j+1)).cnt (j+1) = 0 := by
      show upd A.cnt (j+1) (w64 (A.cnt (j+1) - 1)) (j+1) = 0
      rw [upd_same, h.cnt (j+1) (by omega) (by omega)]; decide
    have hk := h.kid (j+1) (by omega) (by omega)
    rw [List.range'_1_concat, List.reverse_append, List.reverse_singleton]
    rcases Nat.eq_zero_or_pos j with rfl | hj
    · refine ⟨(A.dec 1).gone 1, ⟨1, [], rfl, h.used 1 (by omega) (by omega), Or.inr ⟨by rw [hc]; omega, 0, rfl, ?_⟩⟩, ?_, rfl, rfl⟩
      · rw [hk]; exact ⟨rfl, rfl, rfl⟩
      · rfl
    · rw [if_neg (by omega), Nat.add_sub_cancel] at hk
      have h2 : Chn ((A.dec (j+1)).gone (j+1)) j := by
        refine ⟨fun l h1 h2 => ?_, fun l h1 h2 => ?_, fun l h1 h2 => ?_⟩
        · show upd A.used (j+1) false l = true
          rw [upd_ne _ _ (by omega)]; exact h.used l h1 (by omega)
        · show upd A.cnt (j+1) _ l = 1
          rw [upd_ne _ _ (by omega)]; exact h.cnt l h1 (by omega)
        · show kids (upd A.node (j+1) Nd.zero l) = _
          rw [upd_ne _ _ (by omega)]; exact h.kid l h1 (by omega)
      obtain ⟨B, hR, hrel, hcap, hfr⟩ := ih _ h2 hj
      refine ⟨B, ⟨j+1, [], rfl, h.used (j+1) (by omega) (by omega), Or.inr ⟨by rw [hc]; omega, j, rfl, ?_⟩⟩, ?_, hcap, hfr⟩
      · rw [hk]; exact hR
      · rw [hrel]
        show (A.rel ++ [j+1]) ++ _ = _
        rw [List.append_assoc, Nat.add_comm 1 j]

/-- The state behind 'i' steps of the law. -/
structure Deep (A : AR) (n i : Nat) : Prop where
  cap : A.cap = n
  rel : A.rel = []
  fresh : A.fresh = i
  ch : Chn A i
  size : 1 ≤ i → (A.node i).size = i

theorem kids_pair (k v : Int) (A : AR) (l r : Nat) : kids (mkN A k v l r) = (if l = 0 then [] else [l]) ++ (if r = 0 then [] else [r]) := by
  unfold kids mkN
  rw [(addC_lr _ _ _).1, (addC_lr _ _ _).1, (addC_lr _ _ _).2.1, (addC_lr _ _ _).2.1]

theorem Deep.make {A : AR} {n i l r : Nat} (h : Deep A n i) (hn : n ≤ 3000) (hi : i < n) (k v : Int) (hlr : (l = i ∧ r = 0) ∨ (l = 0 ∧ r = i)) :
    A.makeE k v l r = 0 ∧ A.makeI k v l r = i + 1 ∧ ∃ A', A' = A.make k v l r ∧ A'.cap = n ∧ A'.rel = [] ∧ A'.fresh = i + 1 ∧ (∀ l, 1 ≤ l → l ≤ i + 1 → A'.used l = true) ∧ (∀ l, 1 ≤ l → l ≤ i + 1 → A'.cnt l = if l = i then 2 else 1) ∧
      (∀ l, 1 ≤ l → l ≤ i + 1 → kids (A'.node l) = if l = 1 then [] else [l - 1]) ∧ (A'.node (i + 1)).size = (i + 1 : Nat) := by
  have hsz : (mkN A k v l r).size = (i + 1 : Nat) := by
    unfold mkN
    rcases hlr with ⟨rfl, rfl⟩ | ⟨rfl, rfl⟩
    · rcases Nat.eq_zero_or_pos l with rfl | hp
      · simp [addC]
      · have := h.size hp
        simp only [addC, if_pos, if_neg (show ¬ l = 0 by omega), this]
        rw [w64_in (by omega)]; omega
    · rcases Nat.eq_zero_or_pos r with rfl | hp
      · simp [addC]
      · have := h.size hp
        simp only [addC, if_pos, if_neg (show ¬ r = 0 by omega), this]
        rw [w64_in (by omega)]; omega
  have hf : A.free ≠ 0 := by unfold AR.free; rw [h.rel, h.cap, h.fresh]; simp; omega
  have htop : A.top = i + 1 := by unfold AR.top; rw [h.rel, h.fresh]; rfl
  have hu : ∀ c, c = l ∨ c = r → ¬ (c ≠ 0 ∧ A.used c = false) := by
    rintro c hc ⟨a, b⟩
    have hci : c = i := by omega
    have := h.ch.used c (by omega) (by omega)
    rw [b] at this; cases this
  have hE : A.makeE k v l r = 0 := by
    unfold AR.makeE
    rw [if_neg, if_neg hf]
    rintro (hx | hx | hx)
    · exact hu l (Or.inl rfl) hx
    · exact hu r (Or.inr rfl) hx
    · rw [hsz] at hx; omega
  refine ⟨hE, by unfold AR.makeI; rw [hE, htop]; rfl, _, rfl, ?_⟩
  have e : A.make k v l r = ((A.put (mkN A k v l r)).inc l).inc r := by unfold AR.make; rw [hE]; rfl
  rw [e]
  refine ⟨h.cap, ?_, ?_, ?_, ?_, ?_, ?_⟩
  · show A.rel.dropLast = []; rw [h.rel]; rfl
  · show (if A.rel = [] then A.fresh + 1 else A.fresh) = i + 1; rw [if_pos h.rel, h.fresh]
  · intro c h1 h2
    show upd A.used A.top true c = true
    rw [htop]
    unfold upd
    split
    · rfl
    · exact h.ch.used c h1 (by omega)
  · intro c h1 h2
    show upd (upd (upd A.cnt A.top 1) l (w64 (upd A.cnt A.top 1 l + 1))) r (w64 (upd (upd A.cnt A.top 1) l (w64 (upd A.cnt A.top 1 l + 1)) r + 1)) c = _
    rw [htop]
    have hci : c ≤ i → A.cnt c = 1 := fun hc => h.ch.cnt c h1 hc
    rcases hlr with ⟨rfl, rfl⟩ | ⟨rfl, rfl⟩
    · rw [upd_ne _ _ (by omega)]
      by_cases e1 : c = l
      · subst e1
        rw [upd_same, upd_ne _ _ (by omega), hci (by omega), if_pos rfl]; decide
      · rw [upd_ne _ _ e1, if_neg e1]
        by_cases e2 : c = l + 1
        · rw [e2, upd_same]
        · rw [upd_ne _ _ e2]; exact hci (by omega)
    · by_cases e1 : c = r
      · subst e1
        rw [upd_same, upd_ne _ _ (by omega), upd_ne _ _ (by omega), hci (by omega), if_pos rfl]; decide
      · rw [upd_ne _ _ e1, upd_ne _ _ (by omega), if_neg e1]
        by_cases e2 : c = r + 1
        · rw [e2, upd_same]
        · rw [upd_ne _ _ e2]; exact hci (by omega)
  · intro c h1 h2
    show kids (upd A.node A.top (mkN A k v l r) c) = _
    rw [htop]
    unfold upd
    split
    · rename_i e2
      rw [kids_pair]
      subst e2
      rcases hlr with ⟨rfl, rfl⟩ | ⟨rfl, rfl⟩
      · by_cases hl : l = 0 <;> simp [hl]
      · by_cases hr : r = 0 <;> simp [hr]
    · exact h.ch.kid c h1 (by omega)
  · show (upd A.node A.top (mkN A k v l r) (i + 1)).size = _
    rw [htop, upd_same]; exact hsz

theorem Chn.dec {A : AR} {n i : Nat} (hi : 1 ≤ i) (h1 : A.cap = n) (h2 : A.rel = []) (h3 : A.fresh = i + 1) (h4 : ∀ l, 1 ≤ l → l ≤ i + 1 → A.used l = true) (h5 : ∀ l, 1 ≤ l → l ≤ i + 1 → A.cnt l = if l = i then 2 else 1)
    (h6 : ∀ l, 1 ≤ l → l ≤ i + 1 → kids (A.node l) = if l = 1 then [] else [l - 1]) (h7 : (A.node (i + 1)).size = (i + 1 : Nat)) : RelN 1 A [i] (A.dec i) 0 ∧ Deep (A.dec i) n (i + 1) := by
  have hc : (A.dec i).cnt i = 1 := by
    show upd A.cnt i (w64 (A.cnt i - 1)) i = 1
    rw [upd_same, h5 i hi (by omega), if_pos rfl]; decide
  refine ⟨⟨i, [], rfl, h4 i hi (by omega), Or.inl ⟨by rw [hc]; omega, rfl, rfl, rfl⟩⟩, h1, h2, h3, ⟨h4, fun l a b => ?_, h6⟩, fun _ => h7⟩
  by_cases e : l = i
  · rw [e]; exact hc
  · show upd A.cnt i (w64 (A.cnt i - 1)) l = 1
    rw [upd_ne _ _ e, h5 l a b, if_neg e]

set_option maxHeartbeats 2000000 in
theorem c_LawDeepRelease (d : Int) (rt : Bool) (w : World) (hd : -9223372036854775808 ≤ d ∧ d ≤ 9223372036854775807) :
    Calls Try.prog 8 [.int .i64 d, .bool rt].toArray w (Ret fun r w' => r = .bool true ∧ Ext w w') := by
  have hk1 := Int.emod_nonneg d (show (3000 : Int) ≠ 0 by omega)
  have hk2 := Int.emod_lt_of_pos d (show 0 < (3000 : Int) by omega)
  refine calls_go Try.func8 rfl Try.ntmps8 (Nat.le_of_ble_eq_true rfl) ?_
  repeat (first | refine sp ?_ | (refine is_load ?_; refine ld ?_) | (refine is_store ?_; refine sr ?_) | (refine is_alloc ?_; refine al ?_) | (refine is_box ?_; refine bx ?_) | (refine isl_load ?_; refine ldl ?_) | (refine isl_store ?_; refine srl ?_) | (refine isl_alloc ?_; refine all' ?_) | (refine isl_box ?_; refine bxl ?_) | refine dr Try.follows ?_)
  refine go_call rfl rfl (c_Mod d 3000 w hd (by omega)) ?_
  rintro r w0 ⟨rfl, rfl⟩
  obtain ⟨m, hm⟩ : ∃ m : Nat, d % 3000 = m := ⟨(d % 3000).toNat, by omega⟩
  rw [hm] at hk1 hk2 ⊢
  obtain ⟨n, hn⟩ : ∃ n : Nat, n = m + 1 := ⟨_, rfl⟩
  repeat (first | refine sp ?_ | (refine is_load ?_; refine ld ?_) | (refine is_store ?_; refine sr ?_) | (refine is_alloc ?_; refine al ?_) | (refine is_box ?_; refine bx ?_) | (refine isl_load ?_; refine ldl ?_) | (refine isl_store ?_; refine srl ?_) | (refine isl_alloc ?_; refine all' ?_) | (refine isl_box ?_; refine bxl ?_) | refine dr Try.follows ?_)
  refine go_as 5 (u' := .int .i64 (n : Int)) rfl (by congr 1; omega) ?_
  refine go_as 24 (u' := .int .i64 (n : Int)) rfl (by congr 1; omega) ?_
  refine go_call rfl rfl (p_New w0 n (by omega) (by omega)) ?_
  rintro r w1 ⟨p, q, rfl, ha, hq, hx⟩
  have hpb : w0.heap.size ≤ p := hq p ha.fpp
  repeat (first | refine sp ?_ | (refine is_load ?_; refine ld ?_) | (refine is_store ?_; refine sr ?_) | (refine is_alloc ?_; refine al ?_) | (refine is_box ?_; refine bx ?_) | (refine isl_load ?_; refine ldl ?_) | (refine isl_store ?_; refine srl ?_) | (refine isl_alloc ?_; refine all' ?_) | (refine isl_box ?_; refine bxl ?_) | refine dr Try.follows ?_)
  refine go_call rfl rfl (c_awake w1) ?_
  rintro r w2 ⟨rfl, hx2⟩
  repeat (first | refine sp ?_ | (refine is_load ?_; refine ld ?_) | (refine is_store ?_; refine sr ?_) | (refine is_alloc ?_; refine al ?_) | (refine is_box ?_; refine bx ?_) | (refine isl_load ?_; refine ldl ?_) | (refine isl_store ?_; refine srl ?_) | (refine isl_alloc ?_; refine all' ?_) | (refine isl_box ?_; refine bxl ?_) | refine dr Try.follows ?_)
  refine go_loop (G := Nat × AP × AR) [8, 9] (fun ⟨i, _, _⟩ => [.int .u32 (i : Int), .int .i64 (i : Int)]) [(1, .bool rt), (5, .int .i64 (n : Int)), (6, ptr p)]
    (fun ⟨i, q, A⟩ w' => i ≤ n ∧ Deep A n i ∧ ArP w' w0.heap.size p q A ∧ (∀ b, q.fp b → w0.heap.size ≤ b) ∧ Ext w0 w') (fun g => n - g.1) (0, q, AR.new n) rfl ⟨rfl, rfl, rfl, trivial⟩
    ⟨by omega, ⟨rfl, rfl, rfl, ⟨fun l a b => by omega, fun l a b => by omega, fun l a b => by omega⟩, by omega⟩, ha.ext hx2, hq, hx.trans hx2⟩ ?_
  rintro ⟨i, q1, A⟩ w3 ⟨hi, hdp, ha1, hq1, hx3⟩
  by_cases hlt : i < n
  · cases rt with
    | false =>
      repeat (first | refine sp ?_ | (refine is_load ?_; refine ld ?_) | (refine is_store ?_; refine sr ?_) | (refine is_alloc ?_; refine al ?_) | (refine is_box ?_; refine bx ?_) | (refine isl_load ?_; refine ldl ?_) | (refine isl_store ?_; refine srl ?_) | (refine isl_alloc ?_; refine all' ?_) | (refine isl_box ?_; refine bxl ?_) | refine dr Try.follows ?_)
      refine go_call rfl rfl (p_Make w3 _ p q1 A i 1 i 0 ha1 (by omega) (by omega)) ?_
      rintro r w4 ⟨rfl, q4, ha4, hq4, hf4⟩
      obtain ⟨e1, e2, A', hA', b1, b2, b3, b4, b5, b6, b7⟩ := hdp.make (l := i) (r := 0) (by omega) hlt i 1 (by omega)
      rw [e1, e2]
      rw [← hA'] at ha4
      have hx4 := Fr.base hx3 hf4 hq1
      have hq4' : ∀ b, q4.fp b → w0.heap.size ≤ b := fun b hb => by
        rcases hq4 b hb with h | h
        · exact hq1 b h
        · have := hx3.size; omega
      rcases Nat.eq_zero_or_pos i with rfl | hip
      · repeat (first | refine sp ?_ | (refine is_load ?_; refine ld ?_) | (refine is_store ?_; refine sr ?_) | (refine is_alloc ?_; refine al ?_) | (refine is_box ?_; refine bx ?_) | (refine isl_load ?_; refine ldl ?_) | (refine isl_store ?_; refine srl ?_) | (refine isl_alloc ?_; refine all' ?_) | (refine isl_box ?_; refine bxl ?_) | refine dr Try.follows ?_)
        refine go_call rfl rfl (p_Release0 w4 p) ?_
        rintro r w5 ⟨rfl, rfl⟩
        repeat (first | refine sp ?_ | (refine is_load ?_; refine ld ?_) | (refine is_store ?_; refine sr ?_) | (refine is_alloc ?_; refine al ?_) | (refine is_box ?_; refine bx ?_) | (refine isl_load ?_; refine ldl ?_) | (refine isl_store ?_; refine srl ?_) | (refine isl_alloc ?_; refine all' ?_) | (refine isl_box ?_; refine bxl ?_) | refine dr Try.follows ?_)
        refine go_stop (G := Nat × AP × AR) (1, q4, A') rfl ⟨rfl, rfl, rfl, trivial⟩ ⟨hlt, ⟨b1, b2, b3, ⟨b4, fun l a b => by rw [b5 l a b, if_neg (by omega)], b6⟩, fun _ => b7⟩, ha4, hq4', hx4⟩ (by show n - 1 < n - 0; omega)
      · obtain ⟨hR, hD⟩ := Chn.dec hip b1 b2 b3 b4 b5 b6 b7
        repeat (first | refine sp ?_ | (refine is_load ?_; refine ld ?_) | (refine is_store ?_; refine sr ?_) | (refine is_alloc ?_; refine al ?_) | (refine is_box ?_; refine bx ?_) | (refine isl_load ?_; refine ldl ?_) | (refine isl_store ?_; refine srl ?_) | (refine isl_alloc ?_; refine all' ?_) | (refine isl_box ?_; refine bxl ?_) | refine dr Try.follows ?_)
        refine go_call rfl rfl (p_Release w4 _ p q4 A' _ i 1 0 ha4 hx4.size (by omega) (by omega) (b4 i hip (by omega)) hR (by omega) (by omega)) ?_
        rintro r w5 ⟨rfl, q5, ha5, hq5, hf5⟩
        have hx5 := Fr.base hx4 hf5 hq4'
        repeat (first | refine sp ?_ | (refine is_load ?_; refine ld ?_) | (refine is_store ?_; refine sr ?_) | (refine is_alloc ?_; refine al ?_) | (refine is_box ?_; refine bx ?_) | (refine isl_load ?_; refine ldl ?_) | (refine isl_store ?_; refine srl ?_) | (refine isl_alloc ?_; refine all' ?_) | (refine isl_box ?_; refine bxl ?_) | refine dr Try.follows ?_)
        refine go_stop (G := Nat × AP × AR) (i + 1, q5, A'.dec i) rfl ⟨rfl, rfl, rfl, trivial⟩ ⟨hlt, hD, ha5, ?_, hx5⟩ (by show n - (i + 1) < n - i; omega)
        intro b hb
        rcases hq5 b hb with h | h
        · exact hq4' b h
        · have := hx4.size; omega
    | true =>
      repeat (first | refine sp ?_ | (refine is_load ?_; refine ld ?_) | (refine is_store ?_; refine sr ?_) | (refine is_alloc ?_; refine al ?_) | (refine is_box ?_; refine bx ?_) | (refine isl_load ?_; refine ldl ?_) | (refine isl_store ?_; refine srl ?_) | (refine isl_alloc ?_; refine all' ?_) | (refine isl_box ?_; refine bxl ?_) | refine dr Try.follows ?_)
      refine go_call rfl rfl (p_Make w3 _ p q1 A i 1 0 i ha1 (by omega) (by omega)) ?_
      rintro r w4 ⟨rfl, q4, ha4, hq4, hf4⟩
      obtain ⟨e1, e2, A', hA', b1, b2, b3, b4, b5, b6, b7⟩ := hdp.make (l := 0) (r := i) (by omega) hlt i 1 (by omega)
      rw [e1, e2]
      rw [← hA'] at ha4
      have hx4 := Fr.base hx3 hf4 hq1
      have hq4' : ∀ b, q4.fp b → w0.heap.size ≤ b := fun b hb => by
        rcases hq4 b hb with h | h
        · exact hq1 b h
        · have := hx3.size; omega
      rcases Nat.eq_zero_or_pos i with rfl | hip
      · repeat (first | refine sp ?_ | (refine is_load ?_; refine ld ?_) | (refine is_store ?_; refine sr ?_) | (refine is_alloc ?_; refine al ?_) | (refine is_box ?_; refine bx ?_) | (refine isl_load ?_; refine ldl ?_) | (refine isl_store ?_; refine srl ?_) | (refine isl_alloc ?_; refine all' ?_) | (refine isl_box ?_; refine bxl ?_) | refine dr Try.follows ?_)
        refine go_call rfl rfl (p_Release0 w4 p) ?_
        rintro r w5 ⟨rfl, rfl⟩
        repeat (first | refine sp ?_ | (refine is_load ?_; refine ld ?_) | (refine is_store ?_; refine sr ?_) | (refine is_alloc ?_; refine al ?_) | (refine is_box ?_; refine bx ?_) | (refine isl_load ?_; refine ldl ?_) | (refine isl_store ?_; refine srl ?_) | (refine isl_alloc ?_; refine all' ?_) | (refine isl_box ?_; refine bxl ?_) | refine dr Try.follows ?_)
        refine go_stop (G := Nat × AP × AR) (1, q4, A') rfl ⟨rfl, rfl, rfl, trivial⟩ ⟨hlt, ⟨b1, b2, b3, ⟨b4, fun l a b => by rw [b5 l a b, if_neg (by omega)], b6⟩, fun _ => b7⟩, ha4, hq4', hx4⟩ (by show n - 1 < n - 0; omega)
      · obtain ⟨hR, hD⟩ := Chn.dec hip b1 b2 b3 b4 b5 b6 b7
        repeat (first | refine sp ?_ | (refine is_load ?_; refine ld ?_) | (refine is_store ?_; refine sr ?_) | (refine is_alloc ?_; refine al ?_) | (refine is_box ?_; refine bx ?_) | (refine isl_load ?_; refine ldl ?_) | (refine isl_store ?_; refine srl ?_) | (refine isl_alloc ?_; refine all' ?_) | (refine isl_box ?_; refine bxl ?_) | refine dr Try.follows ?_)
        refine go_call rfl rfl (p_Release w4 _ p q4 A' _ i 1 0 ha4 hx4.size (by omega) (by omega) (b4 i hip (by omega)) hR (by omega) (by omega)) ?_
        rintro r w5 ⟨rfl, q5, ha5, hq5, hf5⟩
        have hx5 := Fr.base hx4 hf5 hq4'
        repeat (first | refine sp ?_ | (refine is_load ?_; refine ld ?_) | (refine is_store ?_; refine sr ?_) | (refine is_alloc ?_; refine al ?_) | (refine is_box ?_; refine bx ?_) | (refine isl_load ?_; refine ldl ?_) | (refine isl_store ?_; refine srl ?_) | (refine isl_alloc ?_; refine all' ?_) | (refine isl_box ?_; refine bxl ?_) | refine dr Try.follows ?_)
        refine go_stop (G := Nat × AP × AR) (i + 1, q5, A'.dec i) rfl ⟨rfl, rfl, rfl, trivial⟩ ⟨hlt, hD, ha5, ?_, hx5⟩ (by show n - (i + 1) < n - i; omega)
        intro b hb
        rcases hq5 b hb with h | h
        · exact hq4' b h
        · have := hx4.size; omega
  obtain rfl : i = n := by omega
  have hui := hdp.ch.used i (by omega) (by omega)
  have hsz : A.sizeOf i = i := by unfold AR.sizeOf; rw [if_pos hui, hdp.size (by omega)]
  have hrd : Deep (A.read i) i i := by
    have : A.read i = { A with reads := (A.reads + 1) % 18446744073709551616 } := by unfold AR.read; rw [if_pos hui]
    rw [this]
    exact ⟨hdp.cap, hdp.rel, hdp.fresh, ⟨hdp.ch.used, hdp.ch.cnt, hdp.ch.kid⟩, hdp.size⟩
  repeat (first | refine sp ?_ | (refine is_load ?_; refine ld ?_) | (refine is_store ?_; refine sr ?_) | (refine is_alloc ?_; refine al ?_) | (refine is_box ?_; refine bx ?_) | (refine isl_load ?_; refine ldl ?_) | (refine isl_store ?_; refine srl ?_) | (refine isl_alloc ?_; refine all' ?_) | (refine isl_box ?_; refine bxl ?_) | refine dr Try.follows ?_)
  refine go_call rfl rfl (p_Size w3 _ p q1 A i ha1 (by omega)) ?_
  rintro r w4 ⟨rfl, ha4, hf4⟩
  rw [hsz]
  have hx4 := Fr.base hx3 hf4 (fun b e => by subst e; exact hpb)
  generalize A.read i = A2 at *
  repeat (first | refine sp ?_ | (refine is_load ?_; refine ld ?_) | (refine is_store ?_; refine sr ?_) | (refine is_alloc ?_; refine al ?_) | (refine is_box ?_; refine bx ?_) | (refine isl_load ?_; refine ldl ?_) | (refine isl_store ?_; refine srl ?_) | (refine isl_alloc ?_; refine all' ?_) | (refine isl_box ?_; refine bxl ?_) | refine dr Try.follows ?_)
  refine go_call rfl rfl (p_Free w4 _ p q1 A2 ha4) ?_
  rintro r w5 ⟨rfl, hx5⟩
  have hfr : A2.free = 0 := by unfold AR.free; rw [hrd.rel, hrd.cap, hrd.fresh]; simp
  rw [hfr]
  have hx5' := hx4.trans hx5
  obtain ⟨B, hR, hBr, hBc, hBf⟩ := hrd.ch.rel i A2 (by omega)
  repeat (first | refine sp ?_ | (refine is_load ?_; refine ld ?_) | (refine is_store ?_; refine sr ?_) | (refine is_alloc ?_; refine al ?_) | (refine is_box ?_; refine bx ?_) | (refine isl_load ?_; refine ldl ?_) | (refine isl_store ?_; refine srl ?_) | (refine isl_alloc ?_; refine all' ?_) | (refine isl_box ?_; refine bxl ?_) | refine dr Try.follows ?_)
  refine go_call rfl rfl (p_Release w5 _ p q1 A2 B i i i (ha4.ext hx5) hx5'.size (by omega) (by omega) (hrd.ch.used i (by omega) (by omega)) hR (by omega) (by omega)) ?_
  rintro r w6 ⟨rfl, q6, ha6, hq6, hf6⟩
  have hx6 := Fr.base hx5' hf6 hq1
  repeat (first | refine sp ?_ | (refine is_load ?_; refine ld ?_) | (refine is_store ?_; refine sr ?_) | (refine is_alloc ?_; refine al ?_) | (refine is_box ?_; refine bx ?_) | (refine isl_load ?_; refine ldl ?_) | (refine isl_store ?_; refine srl ?_) | (refine isl_alloc ?_; refine all' ?_) | (refine isl_box ?_; refine bxl ?_) | refine dr Try.follows ?_)
  refine go_call rfl rfl (p_Dump w6 _ p q6 B ha6) ?_
  rintro r w7 ⟨⟨sv, fv, rfl, hsv, hfv⟩, hx7⟩
  have hord : B.dump.free = List.range' 1 i := by
    show B.rel.reverse ++ List.range' (B.fresh + 1) (B.cap - B.fresh) = _
    rw [hBr, hBc, hBf, hrd.rel, hrd.cap, hrd.fresh]; simp
  rw [hord] at hfv
  obtain ⟨ss, cs, rfl, _, _, _⟩ := hsv
  obtain ⟨sf, cf, rfl, hcf, hrf, _⟩ := hfv
  rw [List.length_range'] at hcf ⊢
  have hx7' := hx6.trans hx7
  repeat (first | refine sp ?_ | (refine is_load ?_; refine ld ?_) | (refine is_store ?_; refine sr ?_) | (refine is_alloc ?_; refine al ?_) | (refine is_box ?_; refine bx ?_) | (refine isl_load ?_; refine ldl ?_) | (refine isl_store ?_; refine srl ?_) | (refine isl_alloc ?_; refine all' ?_) | (refine isl_box ?_; refine bxl ?_) | refine dr Try.follows ?_)
  refine go_loop (G := Nat) [19] (fun k => [.int .i64 (k : Int)]) [(5, .int .i64 (i : Int)), (18, ptr w7.heap.size)]
    (fun k w' => k ≤ i ∧ At w' w7.heap.size [.slice ss B.dump.slots.length cs, .slice sf i cf] 36 ∧ Ext w7 w') (fun k => i - k) 0 rfl ⟨rfl, rfl, trivial⟩ ⟨by omega, by (repeat (first | assumption | (refine At.new' (by (first | omega | (simp; done) | (simp; omega))) _ _) | apply At.alloc | apply At.drewN | apply At.setRow | (apply At.setRow_neF; first | assumption | (apply Ne.symm; assumption) | omega) | (apply At.extF; assumption))), by (repeat (first | exact Fr.refl _ _ | assumption | apply Fr.drewN | apply Fr.alloc | (apply Fr.transF; assumption) | (refine Fr.setRow ?_ _ (by first | exact Or.inr (by (first | omega | (simp; done) | (simp; omega))) | (exact Or.inl (by first | assumption | (simp; done)))))))⟩ ?_
  rintro k w8 ⟨hk, hat, hx8⟩
  by_cases hlt2 : k < i
  · obtain ⟨b, o, rfl, hcell⟩ := (hrf.ext hx8).at (m := 1) (fun _ => rfl) (by omega) (i := k) (by simpa using hlt2)
    have hc0 := hcell 0 (.int .u32 ((k + 1 : Nat) : Int)) (by simp [u32c]; omega)
    rw [Nat.mul_one, Nat.add_zero] at hc0
    repeat (first | refine sp ?_ | (refine is_load ?_; refine ld ?_) | (refine is_store ?_; refine sr ?_) | (refine is_alloc ?_; refine al ?_) | (refine is_box ?_; refine bx ?_) | (refine isl_load ?_; refine ldl ?_) | (refine isl_store ?_; refine srl ?_) | (refine isl_alloc ?_; refine all' ?_) | (refine isl_box ?_; refine bxl ?_) | refine dr Try.follows ?_)
    exact go_stop (G := Nat) (k + 1) rfl ⟨rfl, rfl, trivial⟩ ⟨hlt2, by (repeat (first | assumption | (refine At.new' (by (first | omega | (simp; done) | (simp; omega))) _ _) | apply At.alloc | apply At.drewN | apply At.setRow | (apply At.setRow_neF; first | assumption | (apply Ne.symm; assumption) | omega) | (apply At.extF; assumption))), by (repeat (first | exact Fr.refl _ _ | assumption | apply Fr.drewN | apply Fr.alloc | (apply Fr.transF; assumption) | (refine Fr.setRow ?_ _ (by first | exact Or.inr (by (first | omega | (simp; done) | (simp; omega))) | (exact Or.inl (by first | assumption | (simp; done)))))))⟩ (by show i - (k + 1) < i - k; omega)
  · obtain rfl : k = i := by omega
    repeat (first | refine sp ?_ | (refine is_load ?_; refine ld ?_) | (refine is_store ?_; refine sr ?_) | (refine is_alloc ?_; refine al ?_) | (refine is_box ?_; refine bx ?_) | (refine isl_load ?_; refine ldl ?_) | (refine isl_store ?_; refine srl ?_) | (refine isl_alloc ?_; refine all' ?_) | (refine isl_box ?_; refine bxl ?_) | refine dr Try.follows ?_)
    exact go_ret1 rfl rfl ⟨_, rfl, rfl, hx7'.trans hx8⟩

end Go.Proofs.Ytapocbahkeoeoaa
