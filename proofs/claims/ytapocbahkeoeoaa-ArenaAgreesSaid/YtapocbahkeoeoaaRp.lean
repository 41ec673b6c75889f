/-
  The reference arena: Release.
-/
import Derived.Test.YtapocbahkeoeoaaRm
set_option linter.unusedVariables false
namespace Go.Proofs.Ytapocbahkeoeoaa
open Go.Vc

theorem RelN.one_lt {s : Nat} {A B : AR} {i n : Nat} (h : RelN s A (one1 i) B n) (hw : Wf A) : i < 4294967296 := by
  by_cases h0 : i = 0
  · omega
  · unfold one1 at h
    rw [if_neg h0] at h
    cases s with
    | zero => obtain ⟨h, _⟩ := h; cases h
    | succ s =>
      obtain ⟨k, ws, e, hu, _⟩ := h
      cases e
      have := used_le hw hu
      have := hw.capM
      omega

theorem RelN.len_le : ∀ (s : Nat) (A B : AR) (ws : List Nat) (n : Nat), RelN s A ws B n → n ≤ s := by
  intro s
  induction s with
  | zero => rintro A B ws n ⟨_, _, rfl⟩; omega
  | succ s ih =>
    rintro A B ws n ⟨k, ws', rfl, hu, h⟩
    rcases h with ⟨hp, h⟩ | ⟨hp, m, rfl, h⟩
    · have := ih _ _ _ _ h; omega
    · have := ih _ _ _ _ h; omega

set_option maxHeartbeats 2000000 in
theorem c_drop : ∀ (s : Nat) (w : World) (lo r : Nat) (V : RV) (A B : AR) (i n : Nat), RfAt w lo r V A → lo ≤ w.heap.size → i < 4294967296 → RelN s A (one1 i) B n → s ≤ 1000000 →
    Calls Try.prog 80 [ptr r, .int .u32 (i : Int)].toArray w (Ret fun x w' => x = .int .i64 (n : Int) ∧ ∃ V', RfAt w' lo r V' B ∧ RGr r V V' w w') := by
  intro s
  induction s using Nat.strongRecOn with
  | _ s ih =>
  intro w lo r V A B i n h hlo hi hR hs
  have hr := h.hr
  unfold rfC at hr
  have hlr := hr.lt
  have hcap := h.wf.capM
  obtain ⟨n1, n2, n3⟩ := h.sep
  refine calls_go Try.func80 rfl Try.ntmps80 (Nat.le_of_ble_eq_true rfl) ?_
  by_cases h0 : i = 0
  · subst h0
    cases s with
    | zero =>
      obtain ⟨_, rfl, rfl⟩ := hR
      repeat (first | refine sp ?_ | (refine is_load ?_; refine ld ?_) | (refine is_store ?_; refine sr ?_) | (refine is_alloc ?_; refine al ?_) | (refine is_box ?_; refine bx ?_) | (refine isl_load ?_; refine ldl ?_) | (refine isl_store ?_; refine srl ?_) | (refine isl_alloc ?_; refine all' ?_) | (refine isl_box ?_; refine bxl ?_))
      exact go_ret1 rfl rfl ⟨_, rfl, rfl, V, h, RGr.ext (Fr.refl _ _)⟩
    | succ s => obtain ⟨k, ws', e, _⟩ := hR; cases e
  unfold one1 at hR
  rw [if_neg h0] at hR
  cases s with
  | zero => obtain ⟨e, _⟩ := hR; cases e
  | succ s =>
  obtain ⟨k', ws', e, hu, hR⟩ := hR
  cases e
  obtain ⟨u1, u2⟩ := used_le h.wf hu
  obtain ⟨k, rfl⟩ : ∃ k, i = k + 1 := ⟨i - 1, by omega⟩
  have hcc := h.cntC (k := k) (by omega)
  have hC := h.hc
  have hlc := hC.lt
  have hln := h.hn.lt
  repeat (first | refine sp ?_ | (refine is_load ?_; refine ld ?_) | (refine is_store ?_; refine sr ?_) | (refine is_alloc ?_; refine al ?_) | (refine is_box ?_; refine bx ?_) | (refine isl_load ?_; refine ldl ?_) | (refine isl_store ?_; refine srl ?_) | (refine isl_alloc ?_; refine all' ?_) | (refine isl_box ?_; refine bxl ?_))
  refine go_as 16 (u' := .int .u32 (k : Int)) rfl (by congr 1; omega) ?_
  repeat (first | refine sp ?_ | (refine is_load ?_; refine ld ?_) | (refine is_store ?_; refine sr ?_) | (refine is_alloc ?_; refine al ?_) | (refine is_box ?_; refine bx ?_) | (refine isl_load ?_; refine ldl ?_) | (refine isl_store ?_; refine srl ?_) | (refine isl_alloc ?_; refine all' ?_) | (refine isl_box ?_; refine bxl ?_))
  refine go_as 26 (u' := .int .u32 (k : Int)) rfl (by congr 1; omega) ?_
  refine go_name (F := fun w1 => RfAt w1 lo r V (A.dec (k + 1)) ∧ Fr (fun b => b = V.cb) w w1) ⟨h.cntW (by omega) _ _ rfl, by (repeat (first | exact Fr.refl _ _ | assumption | apply Fr.drewN | apply Fr.alloc | (apply Fr.transF; assumption) | (refine Fr.setRow ?_ _ (by first | exact Or.inr (by (first | omega | (simp; done) | (simp; omega))) | (exact Or.inl (by first | assumption | (simp; done)))))))⟩ ?_
  rintro w1 ⟨h1, hf1⟩
  have hr1 := h1.hr
  unfold rfC at hr1
  have hcc1 := h1.cntC (k := k) (by show k < A.cap; omega)
  have hl1 := hf1.size
  have hF1 : Fr (fun b => b = r ∨ b = V.nb ∨ b = V.cb) w w1 := hf1.mono fun b e => Or.inr (Or.inr e)
  have hc1 : (A.dec (k + 1)).cap = A.cap := rfl
  rcases hR with ⟨hp, hR⟩ | ⟨hp, m, rfl, hR⟩
  · have hB : A.dec (k + 1) = B ∧ n = 0 := by
      cases s with
      | zero => exact ⟨hR.2.1, hR.2.2⟩
      | succ s => obtain ⟨_, _, e, _⟩ := hR; cases e
    obtain ⟨rfl, rfl⟩ := hB
    generalize (A.dec (k + 1)).cnt (k + 1) = z at hcc1 hp
    repeat (first | refine sp ?_ | (refine is_load ?_; refine ld ?_) | (refine is_store ?_; refine sr ?_) | (refine is_alloc ?_; refine al ?_) | (refine is_box ?_; refine bx ?_) | (refine isl_load ?_; refine ldl ?_) | (refine isl_store ?_; refine srl ?_) | (refine isl_alloc ?_; refine all' ?_) | (refine isl_box ?_; refine bxl ?_))
    exact go_ret1 rfl rfl ⟨_, rfl, rfl, V, h1, fun b hb => Or.inl hb, hF1, rfl, rfl⟩
  · have hN : (A.dec (k + 1)).node (k + 1) = A.node (k + 1) := rfl
    rw [List.append_nil, kids_one] at hR
    obtain ⟨s1, s2, C, m1, m2, hR1, hR2, hss, hmm⟩ := RelN.split s _ B _ _ m hR
    have hn1 := h1.hn
    rw [hc1] at hn1
    generalize (A.dec (k + 1)).cnt (k + 1) = z at hcc1 hp
    repeat (first | refine sp ?_ | (refine is_load ?_; refine ld ?_) | (refine is_store ?_; refine sr ?_) | (refine is_alloc ?_; refine al ?_) | (refine is_box ?_; refine bx ?_) | (refine isl_load ?_; refine ldl ?_) | (refine isl_store ?_; refine srl ?_) | (refine isl_alloc ?_; refine all' ?_) | (refine isl_box ?_; refine bxl ?_))
    refine go_as 35 (u' := .int .u32 (k : Int)) rfl (by congr 1; omega) ?_
    repeat (first | refine sp ?_ | (refine is_load ?_; refine ld ?_) | (refine is_store ?_; refine sr ?_) | (refine is_alloc ?_; refine al ?_) | (refine is_box ?_; refine bx ?_) | (refine isl_load ?_; refine ldl ?_) | (refine isl_store ?_; refine srl ?_) | (refine isl_alloc ?_; refine all' ?_) | (refine isl_box ?_; refine bxl ?_))
    refine go_load (v := .agg ⟨(A.node (k + 1)).cells⟩) rfl rfl (node_ld (f := fun j => A.node (j + 1)) (n := A.cap) (by (repeat (first | assumption | (refine At.new' (by (first | omega | (simp; done) | (simp; omega))) _ _) | apply At.alloc | apply At.drewN | apply At.setRow | (apply At.setRow_neF; first | assumption | (apply Ne.symm; assumption) | omega) | (apply At.extF; assumption)))) (by omega)) ?_
    generalize A.node (k + 1) = N at *
    unfold Nd.cells
    repeat (first | refine sp ?_ | (refine is_load ?_; refine ld ?_) | (refine is_store ?_; refine sr ?_) | (refine is_alloc ?_; refine al ?_) | (refine is_box ?_; refine bx ?_) | (refine isl_load ?_; refine ldl ?_) | (refine isl_store ?_; refine srl ?_) | (refine isl_alloc ?_; refine all' ?_) | (refine isl_box ?_; refine bxl ?_))
    refine go_as 43 (u' := .int .u32 (k : Int)) rfl (by congr 1; omega) ?_
    refine go_name (F := fun w2 => At w2 w1.heap.size [.int .i64 N.key, .int .i64 N.val, .int .u32 (N.left : Int), .int .u32 (N.right : Int), .int .i64 N.size, .int .i64 N.sum, .int .i64 N.mn, .int .i64 N.mx] 50 ∧ Ext w1 w2) ⟨by (repeat (first | assumption | (refine At.new' (by (first | omega | (simp; done) | (simp; omega))) _ _) | apply At.alloc | apply At.drewN | apply At.setRow | (apply At.setRow_neF; first | assumption | (apply Ne.symm; assumption) | omega) | (apply At.extF; assumption))), by (repeat (first | exact Fr.refl _ _ | assumption | apply Fr.drewN | apply Fr.alloc | (apply Fr.transF; assumption) | (refine Fr.setRow ?_ _ (by first | exact Or.inr (by (first | omega | (simp; done) | (simp; omega))) | (exact Or.inl (by first | assumption | (simp; done)))))))⟩ ?_
    rintro w2 ⟨hx2, hxt2⟩
    have h2 := h1.ext hxt2
    have hn2 := h2.hn
    rw [hc1] at hn2
    have hl2 := hxt2.size
    have hxl := hx2.lt
    repeat (first | refine sp ?_ | (refine is_load ?_; refine ld ?_) | (refine is_store ?_; refine sr ?_) | (refine is_alloc ?_; refine al ?_) | (refine is_box ?_; refine bx ?_) | (refine isl_load ?_; refine ldl ?_) | (refine isl_store ?_; refine srl ?_) | (refine isl_alloc ?_; refine all' ?_) | (refine isl_box ?_; refine bxl ?_))
    refine go_store rfl rfl (st_agg (m := 8) (l := Nd.zero.cells) hn2 rfl (by decide) (by rw [cellsF_len (m := 8) (fun _ => rfl), nd_len]; omega) (nd_one Nd.zero)) ?_
    have hns := node_set (A := A.dec (k + 1)) (x := Nd.zero) (show k < A.cap by omega)
    rw [hc1] at hns
    rw [hns]
    obtain ⟨A2, hA2⟩ : ∃ A2 : AR, A2 = { A.dec (k + 1) with node := upd (A.dec (k + 1)).node (k + 1) Nd.zero } := ⟨_, rfl⟩
    have hu2 : A2.used (k + 1) = true := by rw [hA2]; exact hu
    have hA3 : A2.unput (k + 1) = (A.dec (k + 1)).gone (k + 1) := by rw [hA2]; rfl
    refine go_name (F := fun w3 => RfAt w3 lo r V A2 ∧ At w3 w1.heap.size [.int .i64 N.key, .int .i64 N.val, .int .u32 (N.left : Int), .int .u32 (N.right : Int), .int .i64 N.size, .int .i64 N.sum, .int .i64 N.mn, .int .i64 N.mx] 50 ∧ Fr (fun b => b = V.nb) w2 w3) ⟨h2.nodeW (show k < A.cap by omega) Nd.zero _ hA2, hx2.fr (S := fun b => b = V.nb) ((Fr.refl _ _).setRow _ (Or.inl rfl)) (by omega), by (repeat (first | exact Fr.refl _ _ | assumption | apply Fr.drewN | apply Fr.alloc | (apply Fr.transF; assumption) | (refine Fr.setRow ?_ _ (by first | exact Or.inr (by (first | omega | (simp; done) | (simp; omega))) | (exact Or.inl (by first | assumption | (simp; done)))))))⟩ ?_
    rintro w3 ⟨h3, hx3, hf3⟩
    have hl3 := hf3.size
    have hr3 := h3.hr
    unfold rfC at hr3
    have hF3 : Fr (fun b => b = r ∨ b = V.nb ∨ b = V.cb) w w3 := (hF1.trans (Fr.of_ext hxt2)).trans (hf3.mono fun b e => Or.inr (Or.inl e))
    obtain ⟨ga, gc, eg, _⟩ := h3.hg
    have hcall := c_rsRelease w3 lo V A2 (k + 1) h3.hs h3.ho h3.hg (fun b hb => h3.bl b (Or.inr (Or.inl hb))) h3.wf hi hu2 (by omega)
    unfold rsC at hcall
    rw [eg] at hcall hr3
    repeat (first | refine sp ?_ | (refine is_load ?_; refine ld ?_) | (refine is_store ?_; refine sr ?_) | (refine is_alloc ?_; refine al ?_) | (refine is_box ?_; refine bx ?_) | (refine isl_load ?_; refine ldl ?_) | (refine isl_store ?_; refine srl ?_) | (refine isl_alloc ?_; refine all' ?_) | (refine isl_box ?_; refine bxl ?_))
    refine go_call rfl rfl hcall ?_
    rintro _ w4 ⟨sv, ov, rfl, N4⟩
    obtain ⟨sa4, ca4, es4, _⟩ := N4.s
    obtain ⟨oa4, oc4, eo4, _⟩ := N4.o
    subst es4
    subst eo4
    have hx4 := hx3.ext N4.x
    have hr4 := hr3.ext N4.x
    have hl4 := N4.x.size
    repeat (first | refine sp ?_ | (refine is_load ?_; refine ld ?_) | (refine is_store ?_; refine sr ?_) | (refine is_alloc ?_; refine al ?_) | (refine is_box ?_; refine bx ?_) | (refine isl_load ?_; refine ldl ?_) | (refine isl_store ?_; refine srl ?_) | (refine isl_alloc ?_; refine all' ?_) | (refine isl_box ?_; refine bxl ?_))
    obtain ⟨V4, hV4⟩ : ∃ V4 : RV, V4 = ⟨V.nb, V.cb, .slice sa4 (A2.unput (k + 1)).rel.length ca4, .slice ga A2.gens.length gc, .slice oa4 (A2.unput (k + 1)).ons.length oc4⟩ := ⟨_, rfl⟩
    have hbl4 : ∀ b, (V4.sv.ownBlock = some b ∨ V4.gv.ownBlock = some b ∨ V4.ov.ownBlock = some b) → (V.sv.ownBlock = some b ∨ V.gv.ownBlock = some b ∨ V.ov.ownBlock = some b) ∨ w3.heap.size ≤ b := by
      rw [hV4]; exact N4.bl
    have hlt4 : ∀ b, (V4.sv.ownBlock = some b ∨ V4.gv.ownBlock = some b ∨ V4.ov.ownBlock = some b) → b < w4.heap.size := by
      rw [hV4]; exact N4.lt
    have hap4 : ∀ b, (V4.sv.ownBlock = some b ∨ V4.gv.ownBlock = some b ∨ V4.ov.ownBlock = some b) → b ≠ r ∧ b ≠ V.nb ∧ b ≠ V.cb := fun b hb => by
      rcases hbl4 b hb with e | e
      · exact h3.ap b e
      · exact ⟨by omega, by omega, by omega⟩
    refine go_name (F := fun w6 => RfAt w6 lo r V4 (A2.unput (k + 1)) ∧ At w6 w1.heap.size [.int .i64 N.key, .int .i64 N.val, .int .u32 (N.left : Int), .int .u32 (N.right : Int), .int .i64 N.size, .int .i64 N.sum, .int .i64 N.mn, .int .i64 N.mx] 50 ∧ Fr (fun b => b = r) w4 w6) ⟨?_, ?_, by (repeat (first | exact Fr.refl _ _ | assumption | apply Fr.drewN | apply Fr.alloc | (apply Fr.transF; assumption) | (refine Fr.setRow ?_ _ (by first | exact Or.inr (by (first | omega | (simp; done) | (simp; omega))) | (exact Or.inl (by first | assumption | (simp; done)))))))⟩ ?_
    · subst hV4
      refine RfAt.put (V := V) (A := A2) (h3.ext (N4.x.trans (by (repeat (first | exact Fr.refl _ _ | assumption | apply Fr.drewN | apply Fr.alloc | (apply Fr.transF; assumption) | (refine Fr.setRow ?_ _ (by first | exact Or.inr (by (first | omega | (simp; done) | (simp; omega))) | (exact Or.inl (by first | assumption | (simp; done)))))))))) rfl rfl rfl rfl rfl (N4.s.ext (by (repeat (first | exact Fr.refl _ _ | assumption | apply Fr.drewN | apply Fr.alloc | (apply Fr.transF; assumption) | (refine Fr.setRow ?_ _ (by first | exact Or.inr (by (first | omega | (simp; done) | (simp; omega))) | (exact Or.inl (by first | assumption | (simp; done))))))))) (N4.g.ext (by (repeat (first | exact Fr.refl _ _ | assumption | apply Fr.drewN | apply Fr.alloc | (apply Fr.transF; assumption) | (refine Fr.setRow ?_ _ (by first | exact Or.inr (by (first | omega | (simp; done) | (simp; omega))) | (exact Or.inl (by first | assumption | (simp; done))))))))) (N4.o.ext (by (repeat (first | exact Fr.refl _ _ | assumption | apply Fr.drewN | apply Fr.alloc | (apply Fr.transF; assumption) | (refine Fr.setRow ?_ _ (by first | exact Or.inr (by (first | omega | (simp; done) | (simp; omega))) | (exact Or.inl (by first | assumption | (simp; done))))))))) hap4 (fun b hb => Nat.lt_of_lt_of_le (hlt4 b hb) ?_) (h3.wf.unput hu2)
      first | (simp; done) | (simp; omega)
    · (repeat (first | assumption | (refine At.new' (by (first | omega | (simp; done) | (simp; omega))) _ _) | apply At.alloc | apply At.drewN | apply At.setRow | (apply At.setRow_neF; first | assumption | (apply Ne.symm; assumption) | omega) | (apply At.extF; assumption)))
    rintro w6 ⟨h6, hx6, hf6⟩
    have hl6 := hf6.size
    have hF6 : Fr (fun b => b = r ∨ b = V.nb ∨ b = V.cb) w w6 := (hF3.trans (Fr.of_ext N4.x)).trans (hf6.mono fun b e => Or.inl e)
    have G6 : RGr r V V4 w w6 := ⟨fun b hb => by
      rcases hb with e | e | e | e
      · exact Or.inl (Or.inl e)
      · exact Or.inl (Or.inr (Or.inl (by rw [hV4] at e; exact e)))
      · exact Or.inl (Or.inr (Or.inr (Or.inl (by rw [hV4] at e; exact e))))
      · rcases hbl4 b e with e | e
        · exact Or.inl (Or.inr (Or.inr (Or.inr e)))
        · right; omega, hF6, by rw [hV4], by rw [hV4]⟩
    rw [hA3] at h6
    have hLl := hR1.one_lt h6.wf
    repeat (first | refine sp ?_ | (refine is_load ?_; refine ld ?_) | (refine is_store ?_; refine sr ?_) | (refine is_alloc ?_; refine al ?_) | (refine is_box ?_; refine bx ?_) | (refine isl_load ?_; refine ldl ?_) | (refine isl_store ?_; refine srl ?_) | (refine isl_alloc ?_; refine all' ?_) | (refine isl_box ?_; refine bxl ?_))
    refine go_call rfl rfl (ih s1 (by omega) w6 lo r V4 _ C N.left m1 h6 (by omega) hLl hR1 (by omega)) ?_
    rintro _ w7 ⟨rfl, V7, h7, G7⟩
    have hG7 := G6.trans G7
    have hm1 := RelN.len_le _ _ _ _ _ hR1
    have hm2 := RelN.len_le _ _ _ _ _ hR2
    have hx7 := hx6.fr G7.fr (by
      have a1 : V4.nb = V.nb := by rw [hV4]
      have a2 : V4.cb = V.cb := by rw [hV4]
      rw [a1, a2]; rintro (e | e | e) <;> omega)
    have hl7 := G7.fr.size
    have hLr := hR2.one_lt h7.wf
    repeat (first | refine sp ?_ | (refine is_load ?_; refine ld ?_) | (refine is_store ?_; refine sr ?_) | (refine is_alloc ?_; refine al ?_) | (refine is_box ?_; refine bx ?_) | (refine isl_load ?_; refine ldl ?_) | (refine isl_store ?_; refine srl ?_) | (refine isl_alloc ?_; refine all' ?_) | (refine isl_box ?_; refine bxl ?_))
    refine go_call rfl rfl (ih s2 (by omega) w7 lo r V7 C B N.right m2 h7 (by omega) hLr hR2 (by omega)) ?_
    rintro _ w8 ⟨rfl, V8, h8, G8⟩
    repeat (first | refine sp ?_ | (refine is_load ?_; refine ld ?_) | (refine is_store ?_; refine sr ?_) | (refine is_alloc ?_; refine al ?_) | (refine is_box ?_; refine bx ?_) | (refine isl_load ?_; refine ldl ?_) | (refine isl_store ?_; refine srl ?_) | (refine isl_alloc ?_; refine all' ?_) | (refine isl_box ?_; refine bxl ?_))
    exact go_ret1 rfl rfl ⟨_, rfl, by congr 1; omega, V8, h8, hG7.trans G8⟩

/-- What a release is given back by: the list of the whole. -/
theorem c_rfRelease (w : World) (lo r : Nat) (V : RV) (A B : AR) (i s n : Nat) (h : RfAt w lo r V A) (hlo : lo ≤ w.heap.size) (hi : i < 4294967296) (ho : i = 0 ∨ A.used i = true) (hR : RelN s A (one1 i) B n) (hs : s ≤ 1000000) :
    Calls Try.prog 49 [ptr r, .int .u32 (i : Int)].toArray w (Ret fun x w' => x = .tuple #[.int .i64 (n : Int), .int .i64 0] ∧ ∃ V', RfAt w' lo r V' B ∧ RGr r V V' w w') := by
  have e : okI A i = true := by
    unfold okI
    rcases ho with rfl | hu
    · rfl
    · rw [hu, Bool.or_true]
  refine calls_go Try.func49 rfl Try.ntmps49 (Nat.le_of_ble_eq_true rfl) ?_
  repeat (first | refine sp ?_ | (refine is_load ?_; refine ld ?_) | (refine is_store ?_; refine sr ?_) | (refine is_alloc ?_; refine al ?_) | (refine is_box ?_; refine bx ?_) | (refine isl_load ?_; refine ldl ?_) | (refine isl_store ?_; refine srl ?_) | (refine isl_alloc ?_; refine all' ?_) | (refine isl_box ?_; refine bxl ?_))
  refine go_call rfl rfl (c_rfIndex w lo r V A i h hi) ?_
  rintro _ w1 ⟨rfl, hx1⟩
  rw [e]
  repeat (first | refine sp ?_ | (refine is_load ?_; refine ld ?_) | (refine is_store ?_; refine sr ?_) | (refine is_alloc ?_; refine al ?_) | (refine is_box ?_; refine bx ?_) | (refine isl_load ?_; refine ldl ?_) | (refine isl_store ?_; refine srl ?_) | (refine isl_alloc ?_; refine all' ?_) | (refine isl_box ?_; refine bxl ?_))
  refine go_call rfl rfl (c_drop s w1 lo r V A B i n (h.ext hx1) (Nat.le_trans hlo hx1.size) hi hR hs) ?_
  rintro _ w2 ⟨rfl, V2, h2, G2⟩
  repeat (first | refine sp ?_ | (refine is_load ?_; refine ld ?_) | (refine is_store ?_; refine sr ?_) | (refine is_alloc ?_; refine al ?_) | (refine is_box ?_; refine bx ?_) | (refine isl_load ?_; refine ldl ?_) | (refine isl_store ?_; refine srl ?_) | (refine isl_alloc ?_; refine all' ?_) | (refine isl_box ?_; refine bxl ?_))
  exact go_ret2 rfl rfl rfl ⟨_, rfl, rfl, V2, h2, (RGr.ext hx1).trans G2⟩
theorem c_rfReleaseBad (w : World) (lo r : Nat) (V : RV) (A : AR) (i : Nat) (h : RfAt w lo r V A) (hi : i < 4294967296) (h0 : i ≠ 0) (hu : A.used i = false) :
    Calls Try.prog 49 [ptr r, .int .u32 (i : Int)].toArray w (Ret fun x w' => x = .tuple #[.int .i64 0, .int .i64 3] ∧ Ext w w') := by
  have e : okI A i = false := by
    unfold okI
    rw [hu, decide_eq_false h0]; rfl
  refine calls_go Try.func49 rfl Try.ntmps49 (Nat.le_of_ble_eq_true rfl) ?_
  repeat (first | refine sp ?_ | (refine is_load ?_; refine ld ?_) | (refine is_store ?_; refine sr ?_) | (refine is_alloc ?_; refine al ?_) | (refine is_box ?_; refine bx ?_) | (refine isl_load ?_; refine ldl ?_) | (refine isl_store ?_; refine srl ?_) | (refine isl_alloc ?_; refine all' ?_) | (refine isl_box ?_; refine bxl ?_))
  refine go_call rfl rfl (c_rfIndex w lo r V A i h hi) ?_
  rintro _ w1 ⟨rfl, hx1⟩
  rw [e]
  repeat (first | refine sp ?_ | (refine is_load ?_; refine ld ?_) | (refine is_store ?_; refine sr ?_) | (refine is_alloc ?_; refine al ?_) | (refine is_box ?_; refine bx ?_) | (refine isl_load ?_; refine ldl ?_) | (refine isl_store ?_; refine srl ?_) | (refine isl_alloc ?_; refine all' ?_) | (refine isl_box ?_; refine bxl ?_))
  exact go_ret2 rfl rfl rfl ⟨_, rfl, rfl, hx1⟩

end Go.Proofs.Ytapocbahkeoeoaa
