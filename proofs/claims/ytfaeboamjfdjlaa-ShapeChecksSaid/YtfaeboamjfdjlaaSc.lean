/-
  The program's check and measure of a tree.
-/
import Derived.Test.YtfaeboamjfdjlaaSh
import Derived.Test.YtfaeboamjfdjlaaDn
import Derived.Test.YtfaeboamjfdjlaaGt
set_option linter.unusedVariables false
namespace Go.Proofs.Ytfaeboamjfdjlaa
open Go.Vc

theorem c_SBal (l r : Int) (w : World) :
    Calls Try.prog 28 [.int .i64 l, .int .i64 r].toArray w (Ret fun v w' => v = .bool (balanced l r) ∧ w' = w) := by
  refine calls_go Try.func28 rfl Try.ntmps28 (Nat.le_of_ble_eq_true rfl) ?_
  by_cases h1 : l < 0
  · repeat (first | refine sp ?_ | (refine is_load ?_; refine ld ?_) | (refine is_store ?_; refine sr ?_) | (refine is_alloc ?_; refine al ?_) | (refine is_box ?_; refine bx ?_))
    exact go_ret1 rfl rfl ⟨_, rfl, by simp [balanced]; omega, rfl⟩
  by_cases h2 : r < 0
  · repeat (first | refine sp ?_ | (refine is_load ?_; refine ld ?_) | (refine is_store ?_; refine sr ?_) | (refine is_alloc ?_; refine al ?_) | (refine is_box ?_; refine bx ?_))
    exact go_ret1 rfl rfl ⟨_, rfl, by simp [balanced]; omega, rfl⟩
  by_cases h3 : 2147483647 < l
  · repeat (first | refine sp ?_ | (refine is_load ?_; refine ld ?_) | (refine is_store ?_; refine sr ?_) | (refine is_alloc ?_; refine al ?_) | (refine is_box ?_; refine bx ?_))
    exact go_ret1 rfl rfl ⟨_, rfl, by simp [balanced]; omega, rfl⟩
  by_cases h4 : 2147483647 < r
  · repeat (first | refine sp ?_ | (refine is_load ?_; refine ld ?_) | (refine is_store ?_; refine sr ?_) | (refine is_alloc ?_; refine al ?_) | (refine is_box ?_; refine bx ?_))
    exact go_ret1 rfl rfl ⟨_, rfl, by simp [balanced]; omega, rfl⟩
  by_cases h5 : l + 1 ≤ 3 * (r + 1)
  · by_cases h6 : r + 1 ≤ 3 * (l + 1)
    · repeat (first | refine sp ?_ | (refine is_load ?_; refine ld ?_) | (refine is_store ?_; refine sr ?_) | (refine is_alloc ?_; refine al ?_) | (refine is_box ?_; refine bx ?_))
      exact go_ret1 rfl rfl ⟨_, rfl, by simp [balanced]; omega, rfl⟩
    · repeat (first | refine sp ?_ | (refine is_load ?_; refine ld ?_) | (refine is_store ?_; refine sr ?_) | (refine is_alloc ?_; refine al ?_) | (refine is_box ?_; refine bx ?_))
      exact go_ret1 rfl rfl ⟨_, rfl, by simp [balanced]; omega, rfl⟩
  · repeat (first | refine sp ?_ | (refine is_load ?_; refine ld ?_) | (refine is_store ?_; refine sr ?_) | (refine is_alloc ?_; refine al ?_) | (refine is_box ?_; refine bx ?_))
    exact go_ret1 rfl rfl ⟨_, rfl, by simp [balanced]; omega, rfl⟩

def Tr.lft : Tr → Tr
  | .nil => .nil
  | .nd _ l _ _ _ => l
def Tr.okB (T : Tr) : Bool := balanced (T.lft.sz : Int) (T.rt.sz : Int)
/-- What the check answers. -/
def CkE' (t : Tr) (E : Int) : Prop := (SrtK t.subs ∧ (∀ T ∈ t.subs, T.okB = true) ∧ E = 0) ∨ (¬ SrtK t.subs ∧ E = 7) ∨ (SrtK t.subs ∧ (∃ T ∈ t.subs, T.okB = false) ∧ E = 8)

theorem Tr.bal_ok : ∀ {t : Tr}, t.bal → t.sz ≤ 2147483647 → ∀ T ∈ t.subs, T.okB = true
  | .nil, _, _, T, hT => by cases hT
  | .nd i l k v r, h, hs, T, hT => by
    obtain ⟨h1, h2, h3⟩ := h
    have e : (Tr.nd i l k v r).sz = l.sz + 1 + r.sz := rfl
    rcases List.mem_append.1 hT with hT | hT
    · exact Tr.bal_ok h2 (by omega) T hT
    · rcases List.mem_cons.1 hT with rfl | hT
      · unfold balN at h1
        show decide (0 ≤ (l.sz : Int) ∧ 0 ≤ (r.sz : Int) ∧ (l.sz : Int) ≤ 2147483647 ∧ (r.sz : Int) ≤ 2147483647 ∧ (l.sz : Int) + 1 ≤ 3 * ((r.sz : Int) + 1) ∧ (r.sz : Int) + 1 ≤ 3 * ((l.sz : Int) + 1)) = true
        exact decide_eq_true ⟨by omega, by omega, by omega, by omega, by omega, by omega⟩
      · exact Tr.bal_ok h3 (by omega) T hT
theorem Tr.subs_sz : ∀ {t : Tr}, ∀ T ∈ t.subs, T.sz ≤ t.sz
  | .nil, T, hT => by cases hT
  | .nd i l k v r, T, hT => by
    have e : (Tr.nd i l k v r).sz = l.sz + 1 + r.sz := rfl
    rcases List.mem_append.1 hT with hT | hT
    · have := Tr.subs_sz T hT; omega
    · rcases List.mem_cons.1 hT with rfl | hT
      · exact Nat.le_refl _
      · have := Tr.subs_sz T hT; omega

set_option maxHeartbeats 8000000 in
theorem c_SCheck (w : World) (lo p : Nat) (q : AP) (A : AR) (t : Tr) (ha : ArP w lo p q A) (hi : InA A t) (hs : t.sz ≤ 2147483647) (hM : ∀ a b, t.subs = a ++ b → SrtK a → a.length ≤ 1000000) (hH : t.ht ≤ 1000000) :
    Calls Try.prog 10 [ptr p, .int .u32 (t.root : Int)].toArray w (Ret fun v w' => (∃ E, v = .int .i64 E ∧ CkE' t E) ∧ (∃ B n, ArP w' lo p q B ∧ Rds A B n) ∧ Fr (fun b => b = p) w w') := by
  have hpl := ha.lt p ha.fpp
  have hrt := hi.rootlt ha.wf
  refine calls_go Try.func10 rfl Try.ntmps10 (Nat.le_of_ble_eq_true rfl) ?_
  by_cases h0 : t.root = 0
  · have := hi.root0 h0
    subst this
    repeat (first | refine sp ?_ | (refine is_load ?_; refine ld ?_) | (refine is_store ?_; refine sr ?_) | (refine is_alloc ?_; refine al ?_) | (refine is_box ?_; refine bx ?_) | (refine isl_load ?_; refine ldl ?_) | (refine isl_store ?_; refine srl ?_) | (refine isl_alloc ?_; refine all' ?_) | (refine isl_box ?_; refine bxl ?_))
    exact go_ret1 rfl rfl ⟨_, rfl, ⟨0, rfl, Or.inl ⟨List.Pairwise.nil, (by intro T h; cases h), rfl⟩⟩, ⟨A, 0, ha, Rds.refl _ _⟩, Fr.refl _ _⟩
  have hur := hi.used h0
  repeat (first | refine sp ?_ | (refine is_load ?_; refine ld ?_) | (refine is_store ?_; refine sr ?_) | (refine is_alloc ?_; refine al ?_) | (refine is_box ?_; refine bx ?_) | (refine isl_load ?_; refine ldl ?_) | (refine isl_store ?_; refine srl ?_) | (refine isl_alloc ?_; refine all' ?_) | (refine isl_box ?_; refine bxl ?_))
  refine go_call rfl rfl (p_Node w lo p q A t.root ha hrt) ?_
  rintro _ w1 ⟨rfl, ha1, hf1⟩
  rw [hur]
  have hl1 := hf1.size
  generalize A.nodeOf t.root = N
  unfold Nd.cells
  repeat (first | refine sp ?_ | (refine is_load ?_; refine ld ?_) | (refine is_store ?_; refine sr ?_) | (refine is_alloc ?_; refine al ?_) | (refine is_box ?_; refine bx ?_) | (refine isl_load ?_; refine ldl ?_) | (refine isl_store ?_; refine srl ?_) | (refine isl_alloc ?_; refine all' ?_) | (refine isl_box ?_; refine bxl ?_))
  refine go_name (F := fun w2 => Ext w1 w2) (by (repeat (first | exact Fr.refl _ _ | assumption | apply Fr.drewN | apply Fr.alloc | (apply Fr.transF; assumption) | (refine Fr.setRow ?_ _ (by first | exact Or.inr (by (first | omega | (simp; done) | (simp; omega))) | (exact Or.inl (by first | assumption | (simp; done)))))))) ?_
  rintro w2 hx2
  have hF2 := hf1.trans (Fr.of_ext hx2)
  have hr1 := Rds.read A t.root
  refine go_call rfl rfl (c_inOrder w2 lo p q (A.read t.root) t (ha1.ext hx2) (hi.read _) hM hH) ?_
  rintro _ w3 ⟨⟨B, n, ha3, hB⟩, hf3, hres⟩
  have hF3 := hF2.trans hf3
  have hB' := hr1.trans hB
  rcases hres with ⟨hso, sv, cv, rfl, hown⟩ | ⟨hso, rfl⟩
  rotate_left
  · repeat (first | refine sp ?_ | (refine is_load ?_; refine ld ?_) | (refine is_store ?_; refine sr ?_) | (refine is_alloc ?_; refine al ?_) | (refine is_box ?_; refine bx ?_) | (refine isl_load ?_; refine ldl ?_) | (refine isl_store ?_; refine srl ?_) | (refine isl_alloc ?_; refine all' ?_) | (refine isl_box ?_; refine bxl ?_))
    exact go_ret1 rfl rfl ⟨_, rfl, ⟨7, rfl, Or.inr (Or.inl ⟨hso, rfl⟩)⟩, ⟨B, _, ha3, hB'⟩, hF3⟩
  have hsl : t.subs.length ≤ 1000000 := hM t.subs [] (by simp) hso
  have hnl : (ndsOf (A.read t.root) t.subs).length = t.subs.length := List.length_map _
  unfold OwnD at hown
  rw [hnl] at hown
  obtain ⟨sv2, cv2, e, _, hrc⟩ := hown.slice
  simp only [Value.slice.injEq] at e
  obtain ⟨rfl, _, rfl⟩ := e
  have hl3 := hf3.size
  have hpl2 : p < w2.heap.size := by have := hx2.size; omega
  repeat (first | refine sp ?_ | (refine is_load ?_; refine ld ?_) | (refine is_store ?_; refine sr ?_) | (refine is_alloc ?_; refine al ?_) | (refine is_box ?_; refine bx ?_) | (refine isl_load ?_; refine ldl ?_) | (refine isl_store ?_; refine srl ?_) | (refine isl_alloc ?_; refine all' ?_) | (refine isl_box ?_; refine bxl ?_))
  refine go_loop (G := Nat × AR × Nat) [31] (fun ⟨k, _, _⟩ => [.int .i64 (k : Int)]) [(0, ptr p), (29, .slice sv t.subs.length cv), (30, .int .i64 (t.subs.length : Int))]
    (fun ⟨k, B', m⟩ w' => k ≤ t.subs.length ∧ (∀ j T, j < k → t.subs[j]? = some T → T.okB = true) ∧ ArP w' lo p q B' ∧ Rds A B' m ∧ Own w' w2.heap.size 41 8 (.slice sv t.subs.length cv) t.subs.length ((ndsOf (A.read t.root) t.subs).flatMap Nd.cells) ∧ Fr (fun b => b = p) w w') (fun g => t.subs.length - g.1) (0, B, _) rfl ⟨rfl, rfl, rfl, trivial⟩ ⟨by omega, by intro j T h; omega, ha3, hB', hown, hF3⟩ ?_
  clear hown hrc ha3 hB hB' hF3 hl3 hf3
  rintro ⟨k, B', m⟩ w4 ⟨hk, hall, ha4, hB4, hown, hF4⟩
  have hl4 := hF4.size
  by_cases hlt : k < t.subs.length
  · obtain ⟨T, hT⟩ : ∃ T, t.subs[k] = T := ⟨_, rfl⟩
    have hTm : T ∈ t.subs := by rw [← hT]; exact List.getElem_mem hlt
    obtain ⟨hTi, hTn⟩ := hi.subs T hTm
    have hTs := Tr.subs_sz T hTm
    obtain ⟨sv2, cv2, e, _, hrc⟩ := hown.slice
    simp only [Value.slice.injEq] at e
    obtain ⟨rfl, _, rfl⟩ := e
    obtain ⟨b, o, rfl, hcell⟩ := RdC.at (m := 8) (enc := Nd.cells) hrc (fun _ => rfl) (by omega) (i := k) (by rw [hnl]; exact hlt)
    have hnk : (ndsOf (A.read t.root) t.subs)[k]'(by rw [hnl]; exact hlt) = A.nodeOf T.root := by
      simp only [ndsOf, List.getElem_map, hT]; exact hr1.nodeOf _
    rw [hnk] at hcell
    cases T with
    | nil => exact absurd rfl hTn
    | nd i l kk v r =>
      have hTsz : (Tr.nd i l kk v r).sz = l.sz + 1 + r.sz := rfl
      have hkn : A.nodeOf i = mkN A kk v l.root r.root := hTi.nodeOf
      have hlr := mkN_lr A kk v l.root r.root
      rw [← hkn] at hlr
      have hTi4 := hB4.inA hTi
      obtain ⟨hri, hrl, hrr⟩ := hTi4.roots ha4.wf
      obtain ⟨N, hN⟩ : ∃ N, A.nodeOf i = N := ⟨_, rfl⟩
      rw [show (Tr.nd i l kk v r).root = i from rfl, hN] at hcell
      rw [hN] at hlr
      repeat (first | refine sp ?_ | (refine is_load ?_; refine ld ?_) | (refine is_store ?_; refine sr ?_) | (refine is_alloc ?_; refine al ?_) | (refine is_box ?_; refine bx ?_) | (refine isl_load ?_; refine ldl ?_) | (refine isl_store ?_; refine srl ?_) | (refine isl_alloc ?_; refine all' ?_) | (refine isl_box ?_; refine bxl ?_))
      refine go_load (v := .agg N.cells.toArray) rfl rfl (ld_cells (m := 8) rfl (by decide) fun j u hj => by rw [addr_add]; exact hcell j u hj) ?_
      unfold Nd.cells
      repeat (first | refine sp ?_ | (refine is_load ?_; refine ld ?_) | (refine is_store ?_; refine sr ?_) | (refine is_alloc ?_; refine al ?_) | (refine is_box ?_; refine bx ?_) | (refine isl_load ?_; refine ldl ?_) | (refine isl_store ?_; refine srl ?_) | (refine isl_alloc ?_; refine all' ?_) | (refine isl_box ?_; refine bxl ?_))
      refine go_name (F := fun w5 => At w5 w4.heap.size [.int .i64 N.key, .int .i64 N.val, .int .u32 (N.left : Int), .int .u32 (N.right : Int), .int .i64 N.size, .int .i64 N.sum, .int .i64 N.mn, .int .i64 N.mx] 41 ∧ Ext w4 w5) ⟨by (repeat (first | assumption | (refine At.new' (by (first | omega | (simp; done) | (simp; omega))) _ _) | apply At.alloc | apply At.drewN | apply At.setRow | (apply At.setRow_neF; first | assumption | (apply Ne.symm; assumption) | omega) | (apply At.extF; assumption))), by (repeat (first | exact Fr.refl _ _ | assumption | apply Fr.drewN | apply Fr.alloc | (apply Fr.transF; assumption) | (refine Fr.setRow ?_ _ (by first | exact Or.inr (by (first | omega | (simp; done) | (simp; omega))) | (exact Or.inl (by first | assumption | (simp; done)))))))⟩ ?_
      rintro w5 ⟨hat, hx5⟩
      rw [hlr.2.2.1, hlr.2.2.2] at hat
      have hpn : ¬ w4.heap.size = p := by omega
      refine go_drawE (Fr (fun b => b = p) w5) 0 Try.follows (by kernel_rfl) (by kernel_rfl) (by kernel_rfl) ((Fr.refl _ _).drewN 1) ?_
      repeat (first | refine sp ?_ | (refine is_load ?_; refine ld ?_) | (refine is_store ?_; refine sr ?_) | (refine is_alloc ?_; refine al ?_) | (refine is_box ?_; refine bx ?_) | (refine isl_load ?_; refine ldl ?_) | (refine isl_store ?_; refine srl ?_) | (refine isl_alloc ?_; refine all' ?_) | (refine isl_box ?_; refine bxl ?_))
      have hx6 : Ext w4 (w5.drewN 1) := Fr.trans hx5 ((Fr.refl _ _).drewN 1)
      refine gol_call rfl rfl (p_Size _ lo p q B' l.root (ha4.ext hx6) hrl) ?_
      rintro _ w6 ⟨rfl, ha6, hf6⟩
      rw [hTi4.2.2.2.1.sizeOf ha4.wf (by omega)]
      have hf6' : Fr (fun b => b = p) w5 w6 := Fr.trans ((Fr.refl _ _).drewN 1) hf6
      refine ⟨hf6', ?_⟩
      repeat (first | refine sp ?_ | (refine is_load ?_; refine ld ?_) | (refine is_store ?_; refine sr ?_) | (refine is_alloc ?_; refine al ?_) | (refine is_box ?_; refine bx ?_) | (refine isl_load ?_; refine ldl ?_) | (refine isl_store ?_; refine srl ?_) | (refine isl_alloc ?_; refine all' ?_) | (refine isl_box ?_; refine bxl ?_))
      refine gol_call rfl rfl (p_Size _ lo p q (B'.read l.root) r.root ha6 hrr) ?_
      rintro _ w7 ⟨rfl, ha7, hf7⟩
      rw [(hTi4.2.2.2.2.read l.root).sizeOf ha6.wf (by omega)]
      have hf7' := hf6'.trans hf7
      refine ⟨hf7', ?_⟩
      repeat (first | refine sp ?_ | (refine is_load ?_; refine ld ?_) | (refine is_store ?_; refine sr ?_) | (refine is_alloc ?_; refine al ?_) | (refine is_box ?_; refine bx ?_) | (refine isl_load ?_; refine ldl ?_) | (refine isl_store ?_; refine srl ?_) | (refine isl_alloc ?_; refine all' ?_) | (refine isl_box ?_; refine bxl ?_))
      refine gol_call rfl rfl (c_SBal (l.sz : Int) (r.sz : Int) w7) ?_
      rintro _ w7 ⟨rfl, rfl⟩
      refine ⟨hf7', ?_⟩
      have hF7 : Fr (fun b => b = p) w w7 := (hF4.trans (Fr.of_ext hx5)).trans hf7'
      have hB7 := (hB4.trans (Rds.read B' l.root)).trans (Rds.read (B'.read l.root) r.root)
      cases hbal : balanced (l.sz : Int) (r.sz : Int) with
      | false =>
        repeat (first | refine sp ?_ | (refine is_load ?_; refine ld ?_) | (refine is_store ?_; refine sr ?_) | (refine is_alloc ?_; refine al ?_) | (refine is_box ?_; refine bx ?_) | (refine isl_load ?_; refine ldl ?_) | (refine isl_store ?_; refine srl ?_) | (refine isl_alloc ?_; refine all' ?_) | (refine isl_box ?_; refine bxl ?_))
        exact go_ret1 rfl rfl ⟨_, rfl, ⟨8, rfl, Or.inr (Or.inr ⟨hso, ⟨_, hTm, hbal⟩, rfl⟩)⟩, ⟨_, _, ha7, hB7⟩, hF7⟩
      | true =>
        repeat (first | refine sp ?_ | (refine is_load ?_; refine ld ?_) | (refine is_store ?_; refine sr ?_) | (refine is_alloc ?_; refine al ?_) | (refine is_box ?_; refine bx ?_) | (refine isl_load ?_; refine ldl ?_) | (refine isl_store ?_; refine srl ?_) | (refine isl_alloc ?_; refine all' ?_) | (refine isl_box ?_; refine bxl ?_))
        exact go_stop (G := Nat × AR × Nat) (k + 1, _, _) rfl ⟨rfl, rfl, rfl, trivial⟩ ⟨hlt, fun j U hj hU => by
          by_cases e : j = k
          · subst e
            rw [List.getElem?_eq_getElem hlt, hT] at hU
            obtain rfl := Option.some.inj hU
            exact hbal
          · exact hall j U (by omega) hU, ha7, hB7, Own.fr (Own.ext hown hx5) hf7' (fun b hb e => by omega), hF7⟩ (by show t.subs.length - (k + 1) < t.subs.length - k; omega)
  · repeat (first | refine sp ?_ | (refine is_load ?_; refine ld ?_) | (refine is_store ?_; refine sr ?_) | (refine is_alloc ?_; refine al ?_) | (refine is_box ?_; refine bx ?_) | (refine isl_load ?_; refine ldl ?_) | (refine isl_store ?_; refine srl ?_) | (refine isl_alloc ?_; refine all' ?_) | (refine isl_box ?_; refine bxl ?_))
    exact go_ret1 rfl rfl ⟨_, rfl, ⟨0, rfl, Or.inl ⟨hso, fun T hT => by
      obtain ⟨j, hj, e⟩ := List.mem_iff_getElem.1 hT
      exact hall j T (by omega) (by rw [List.getElem?_eq_getElem hj, e]), rfl⟩⟩, ⟨_, _, ha4, hB4⟩, hF4⟩

set_option maxHeartbeats 4000000 in
theorem c_sheight : ∀ (t : Tr) (w : World) (lo p : Nat) (q : AP) (A : AR), ArP w lo p q A → InA A t → t.ht ≤ 1000000 →
    Calls Try.prog 38 [ptr p, .int .u32 (t.root : Int)].toArray w (Ret fun v w' => v = .int .i64 (t.ht : Int) ∧ (∃ B n, ArP w' lo p q B ∧ Rds A B n) ∧ Fr (fun b => b = p) w w')
  | .nil, w, lo, p, q, A, ha, hi, hH => by
    have hpl := ha.lt p ha.fpp
    have hfl := ha.lt
    refine calls_go Try.func38 rfl Try.ntmps38 (Nat.le_of_ble_eq_true rfl) ?_
    repeat (first | refine sp ?_ | (refine is_load ?_; refine ld ?_) | (refine is_store ?_; refine sr ?_) | (refine is_alloc ?_; refine al ?_) | (refine is_box ?_; refine bx ?_) | (refine isl_load ?_; refine ldl ?_) | (refine isl_store ?_; refine srl ?_) | (refine isl_alloc ?_; refine all' ?_) | (refine isl_box ?_; refine bxl ?_))
    refine go_call rfl rfl (p_Node w lo p q A 0 ha (by omega)) ?_
    rintro _ w1 ⟨rfl, ha1, hf1⟩
    have hl1 := hf1.size
    rw [ha.wf.u0, nodeOf_un ha.wf.u0]
    unfold Nd.zero Nd.cells
    repeat (first | refine sp ?_ | (refine is_load ?_; refine ld ?_) | (refine is_store ?_; refine sr ?_) | (refine is_alloc ?_; refine al ?_) | (refine is_box ?_; refine bx ?_) | (refine isl_load ?_; refine ldl ?_) | (refine isl_store ?_; refine srl ?_) | (refine isl_alloc ?_; refine all' ?_) | (refine isl_box ?_; refine bxl ?_))
    exact go_ret1 rfl rfl ⟨_, rfl, rfl, ⟨_, _, ha1.ext (by (repeat (first | exact Fr.refl _ _ | assumption | apply Fr.drewN | apply Fr.alloc | (apply Fr.transF; assumption) | (refine Fr.setRow ?_ _ (by first | exact Or.inr (by (first | omega | (simp; done) | (simp; omega))) | (exact Or.inl (by first | assumption | (simp; done)))))))), Rds.read A 0⟩, hf1.trans (Fr.of_ext (by (repeat (first | exact Fr.refl _ _ | assumption | apply Fr.drewN | apply Fr.alloc | (apply Fr.transF; assumption) | (refine Fr.setRow ?_ _ (by first | exact Or.inr (by (first | omega | (simp; done) | (simp; omega))) | (exact Or.inl (by first | assumption | (simp; done)))))))))⟩
  | .nd i l k v r, w, lo, p, q, A, ha, hi, hH => by
    have hpl := ha.lt p ha.fpp
    have hfl := ha.lt
    have hhd : (Tr.nd i l k v r).ht = 1 + max l.ht r.ht := rfl
    obtain ⟨hri, hrl, hrr⟩ := hi.roots ha.wf
    have hkn : A.nodeOf i = mkN A k v l.root r.root := hi.nodeOf
    have hlr := mkN_lr A k v l.root r.root
    rw [← hkn] at hlr
    rw [hhd]
    show Calls _ _ [ptr p, .int .u32 (i : Int)].toArray _ _
    refine calls_go Try.func38 rfl Try.ntmps38 (Nat.le_of_ble_eq_true rfl) ?_
    repeat (first | refine sp ?_ | (refine is_load ?_; refine ld ?_) | (refine is_store ?_; refine sr ?_) | (refine is_alloc ?_; refine al ?_) | (refine is_box ?_; refine bx ?_) | (refine isl_load ?_; refine ldl ?_) | (refine isl_store ?_; refine srl ?_) | (refine isl_alloc ?_; refine all' ?_) | (refine isl_box ?_; refine bxl ?_))
    refine go_call rfl rfl (p_Node w lo p q A i ha hri) ?_
    rintro _ w1 ⟨rfl, ha1, hf1⟩
    have hl1 := hf1.size
    rw [show A.used i = true from hi.2.1]
    obtain ⟨N, hN⟩ : ∃ N, A.nodeOf i = N := ⟨_, rfl⟩
    rw [hN] at hlr ⊢
    unfold Nd.cells
    repeat (first | refine sp ?_ | (refine is_load ?_; refine ld ?_) | (refine is_store ?_; refine sr ?_) | (refine is_alloc ?_; refine al ?_) | (refine is_box ?_; refine bx ?_) | (refine isl_load ?_; refine ldl ?_) | (refine isl_store ?_; refine srl ?_) | (refine isl_alloc ?_; refine all' ?_) | (refine isl_box ?_; refine bxl ?_))
    refine go_name (F := fun w2 => At w2 w1.heap.size [.int .i64 N.key, .int .i64 N.val, .int .u32 (N.left : Int), .int .u32 (N.right : Int), .int .i64 N.size, .int .i64 N.sum, .int .i64 N.mn, .int .i64 N.mx] 41 ∧ Ext w1 w2) ⟨by (repeat (first | assumption | (refine At.new' (by (first | omega | (simp; done) | (simp; omega))) _ _) | apply At.alloc | apply At.drewN | apply At.setRow | (apply At.setRow_neF; first | assumption | (apply Ne.symm; assumption) | omega) | (apply At.extF; assumption))), by (repeat (first | exact Fr.refl _ _ | assumption | apply Fr.drewN | apply Fr.alloc | (apply Fr.transF; assumption) | (refine Fr.setRow ?_ _ (by first | exact Or.inr (by (first | omega | (simp; done) | (simp; omega))) | (exact Or.inl (by first | assumption | (simp; done)))))))⟩ ?_
    rintro w2 ⟨hat, hx2⟩
    rw [hlr.2.2.1, hlr.2.2.2] at hat
    have hpn : ¬ w1.heap.size = p := by omega
    refine go_drawE (Fr (fun b => b = p) w2) 0 Try.follows (by kernel_rfl) (by kernel_rfl) (by kernel_rfl) ((Fr.refl _ _).drewN 1) ?_
    repeat (first | refine sp ?_ | (refine is_load ?_; refine ld ?_) | (refine is_store ?_; refine sr ?_) | (refine is_alloc ?_; refine al ?_) | (refine is_box ?_; refine bx ?_) | (refine isl_load ?_; refine ldl ?_) | (refine isl_store ?_; refine srl ?_) | (refine isl_alloc ?_; refine all' ?_) | (refine isl_box ?_; refine bxl ?_))
    have hx3 : Ext w1 (w2.drewN 1) := Fr.trans hx2 ((Fr.refl _ _).drewN 1)
    refine gol_call rfl rfl (c_sheight l _ lo p q (A.read i) (ha1.ext hx3) (hi.read i).2.2.2.1 (by omega)) ?_
    rintro _ w3 ⟨rfl, ⟨B, n, ha3, hB⟩, hf3⟩
    have hf3' : Fr (fun b => b = p) w2 w3 := Fr.trans ((Fr.refl _ _).drewN 1) hf3
    refine ⟨hf3', ?_⟩
    repeat (first | refine sp ?_ | (refine is_load ?_; refine ld ?_) | (refine is_store ?_; refine sr ?_) | (refine is_alloc ?_; refine al ?_) | (refine is_box ?_; refine bx ?_) | (refine isl_load ?_; refine ldl ?_) | (refine isl_store ?_; refine srl ?_) | (refine isl_alloc ?_; refine all' ?_) | (refine isl_box ?_; refine bxl ?_))
    refine gol_call rfl rfl (c_sheight r w3 lo p q B ha3 (hB.inA (hi.read i).2.2.2.2) (by omega)) ?_
    rintro _ w4 ⟨rfl, ⟨C, m, ha4, hC⟩, hf4⟩
    refine ⟨hf3'.trans hf4, ?_⟩
    have hm : ((1 + max l.ht r.ht : Nat) : Int) = 1 + (if (r.ht : Int) > (l.ht : Int) then (r.ht : Int) else (l.ht : Int)) := by
      split <;> omega
    have hF : Fr (fun b => b = p) w w4 := ((hf1.trans (Fr.of_ext hx2)).trans hf3').trans hf4
    repeat (first | refine sp ?_ | (refine is_load ?_; refine ld ?_) | (refine is_store ?_; refine sr ?_) | (refine is_alloc ?_; refine al ?_) | (refine is_box ?_; refine bx ?_) | (refine isl_load ?_; refine ldl ?_) | (refine isl_store ?_; refine srl ?_) | (refine isl_alloc ?_; refine all' ?_) | (refine isl_box ?_; refine bxl ?_))
    exact go_ret1 rfl rfl ⟨_, rfl, by rw [hm], ⟨_, _, ha4, ((Rds.read A i).trans hB).trans hC⟩, hF⟩

set_option maxHeartbeats 4000000 in
theorem c_Measure (w : World) (lo p : Nat) (q : AP) (A : AR) (t : Tr) (ha : ArP w lo p q A) (hi : InA A t) (hs : t.sz ≤ 2147483647) (hM : ∀ a b, t.subs = a ++ b → SrtK a → a.length ≤ 1000000) (hH : t.ht ≤ 1000000) :
    Calls Try.prog 9 [ptr p, .int .u32 (t.root : Int)].toArray w (Ret fun v w' => (∃ E, CkE' t E ∧ v = .tuple #[.agg ⟨[.int .i64 (if E = 0 then (t.sz : Int) else 0), .int .i64 (if E = 0 then (t.ht : Int) else 0)]⟩, .int .i64 E]) ∧ (∃ B n, ArP w' lo p q B ∧ Rds A B n) ∧ Fr (fun b => b = p) w w') := by
  have hpl := ha.lt p ha.fpp
  have hfl := ha.lt
  have hrt := hi.rootlt ha.wf
  refine calls_go Try.func9 rfl Try.ntmps9 (Nat.le_of_ble_eq_true rfl) ?_
  repeat (first | refine sp ?_ | (refine is_load ?_; refine ld ?_) | (refine is_store ?_; refine sr ?_) | (refine is_alloc ?_; refine al ?_) | (refine is_box ?_; refine bx ?_) | (refine isl_load ?_; refine ldl ?_) | (refine isl_store ?_; refine srl ?_) | (refine isl_alloc ?_; refine all' ?_) | (refine isl_box ?_; refine bxl ?_))
  refine go_call rfl rfl (c_SCheck _ lo p q A t (ha.ext (by (repeat (first | exact Fr.refl _ _ | assumption | apply Fr.drewN | apply Fr.alloc | (apply Fr.transF; assumption) | (refine Fr.setRow ?_ _ (by first | exact Or.inr (by (first | omega | (simp; done) | (simp; omega))) | (exact Or.inl (by first | assumption | (simp; done))))))))) hi hs hM hH) ?_
  rintro _ w1 ⟨⟨E, rfl, hE⟩, ⟨B, n, ha1, hB⟩, hf1⟩
  have hF1 : Fr (fun b => b = p) w w1 := Fr.trans ((Fr.refl _ _).alloc _) hf1
  have hret : At w1 w.heap.size [.int .i64 0, .int .i64 0] 36 := At.fr (At.new _ _ _) hf1 (by omega)
  have hl1 := hF1.size
  by_cases h0 : E = 0
  · subst h0
    repeat (first | refine sp ?_ | (refine is_load ?_; refine ld ?_) | (refine is_store ?_; refine sr ?_) | (refine is_alloc ?_; refine al ?_) | (refine is_box ?_; refine bx ?_) | (refine isl_load ?_; refine ldl ?_) | (refine isl_store ?_; refine srl ?_) | (refine isl_alloc ?_; refine all' ?_) | (refine isl_box ?_; refine bxl ?_))
    refine go_call rfl rfl (p_Size w1 lo p q B t.root ha1 hrt) ?_
    rintro _ w2 ⟨rfl, ha2, hf2⟩
    rw [(hB.inA hi).sizeOf ha1.wf (by omega)]
    have hret2 := hret.fr hf2 (by omega)
    repeat (first | refine sp ?_ | (refine is_load ?_; refine ld ?_) | (refine is_store ?_; refine sr ?_) | (refine is_alloc ?_; refine al ?_) | (refine is_box ?_; refine bx ?_) | (refine isl_load ?_; refine ldl ?_) | (refine isl_store ?_; refine srl ?_) | (refine isl_alloc ?_; refine all' ?_) | (refine isl_box ?_; refine bxl ?_))
    refine go_call rfl rfl (c_sheight t w2 lo p q (B.read t.root) ha2 ((hB.inA hi).read _) hH) ?_
    rintro _ w3 ⟨rfl, ⟨C, m, ha3, hC⟩, hf3⟩
    have hret3 := hret2.fr hf3 (by omega)
    have hF3 := (hF1.trans hf2).trans hf3
    repeat (first | refine sp ?_ | (refine is_load ?_; refine ld ?_) | (refine is_store ?_; refine sr ?_) | (refine is_alloc ?_; refine al ?_) | (refine is_box ?_; refine bx ?_) | (refine isl_load ?_; refine ldl ?_) | (refine isl_store ?_; refine srl ?_) | (refine isl_alloc ?_; refine all' ?_) | (refine isl_box ?_; refine bxl ?_))
    refine go_ret2 rfl ⟨_, rfl, Ld.run (ld_part (by (repeat (first | assumption | (refine At.new' (by (first | omega | (simp; done) | (simp; omega))) _ _) | apply At.alloc | apply At.drewN | apply At.setRow | (apply At.setRow_neF; first | assumption | (apply Ne.symm; assumption) | omega) | (apply At.extF; assumption)))) rfl rfl)⟩ rfl ⟨_, rfl, ⟨0, hE, rfl⟩, ⟨C, _, ha3.fr (S := fun b => w.heap.size ≤ b) (by (repeat (first | exact Fr.refl _ _ | assumption | apply Fr.drewN | apply Fr.alloc | (apply Fr.transF; assumption) | (refine Fr.setRow ?_ _ (by first | exact Or.inr (by (first | omega | (simp; done) | (simp; omega))) | (exact Or.inl (by first | assumption | (simp; done)))))))) (fun b hb e => by have := hfl b hb; omega), (hB.trans (Rds.read B t.root)).trans hC⟩, hF3.trans' (S' := fun b => w.heap.size ≤ b) (by (repeat (first | exact Fr.refl _ _ | assumption | apply Fr.drewN | apply Fr.alloc | (apply Fr.transF; assumption) | (refine Fr.setRow ?_ _ (by first | exact Or.inr (by (first | omega | (simp; done) | (simp; omega))) | (exact Or.inl (by first | assumption | (simp; done)))))))) fun b hb e => by omega⟩
  · repeat (first | refine sp ?_ | (refine is_load ?_; refine ld ?_) | (refine is_store ?_; refine sr ?_) | (refine is_alloc ?_; refine al ?_) | (refine is_box ?_; refine bx ?_) | (refine isl_load ?_; refine ldl ?_) | (refine isl_store ?_; refine srl ?_) | (refine isl_alloc ?_; refine all' ?_) | (refine isl_box ?_; refine bxl ?_))
    refine go_ret2 rfl ⟨_, rfl, Ld.run (ld_part (by (repeat (first | assumption | (refine At.new' (by (first | omega | (simp; done) | (simp; omega))) _ _) | apply At.alloc | apply At.drewN | apply At.setRow | (apply At.setRow_neF; first | assumption | (apply Ne.symm; assumption) | omega) | (apply At.extF; assumption)))) rfl rfl)⟩ rfl ⟨_, rfl, ⟨E, hE, by rw [if_neg h0, if_neg h0]⟩, ⟨B, _, ha1.fr (S := fun b => w.heap.size ≤ b) (by (repeat (first | exact Fr.refl _ _ | assumption | apply Fr.drewN | apply Fr.alloc | (apply Fr.transF; assumption) | (refine Fr.setRow ?_ _ (by first | exact Or.inr (by (first | omega | (simp; done) | (simp; omega))) | (exact Or.inl (by first | assumption | (simp; done)))))))) (fun b hb e => by have := hfl b hb; omega), hB⟩, hF1.trans' (S' := fun b => w.heap.size ≤ b) (by (repeat (first | exact Fr.refl _ _ | assumption | apply Fr.drewN | apply Fr.alloc | (apply Fr.transF; assumption) | (refine Fr.setRow ?_ _ (by first | exact Or.inr (by (first | omega | (simp; done) | (simp; omega))) | (exact Or.inl (by first | assumption | (simp; done)))))))) fun b hb e => by omega⟩

set_option maxHeartbeats 4000000 in
theorem c_ref7Height : ∀ (t : Tr) (w : World) (lo : Nat) (v : Value) (A : AR), Wf A → DpAt w lo v A.dump → InA A t → t.ht ≤ 1000000 →
    Calls Try.prog 11 [v, .int .u32 (t.root : Int)].toArray w (Ret fun r w' => r = .int .i64 (t.ht : Int) ∧ Ext w w')
  | .nil, w, lo, v, A, hw, hd, hi, hH => by
    obtain ⟨s1, c1, s2, c2, rfl, _, _⟩ := hd.b
    refine calls_go Try.func11 rfl Try.ntmps11 (Nat.le_of_ble_eq_true rfl) ?_
    repeat (first | refine sp ?_ | (refine is_load ?_; refine ld ?_) | (refine is_store ?_; refine sr ?_) | (refine is_alloc ?_; refine al ?_) | (refine is_box ?_; refine bx ?_) | (refine isl_load ?_; refine ldl ?_) | (refine isl_store ?_; refine srl ?_) | (refine isl_alloc ?_; refine all' ?_) | (refine isl_box ?_; refine bxl ?_))
    exact go_ret1 rfl rfl ⟨_, rfl, rfl, by (repeat (first | exact Fr.refl _ _ | assumption | apply Fr.drewN | apply Fr.alloc | (apply Fr.transF; assumption) | (refine Fr.setRow ?_ _ (by first | exact Or.inr (by (first | omega | (simp; done) | (simp; omega))) | (exact Or.inl (by first | assumption | (simp; done)))))))⟩
  | .nd i l k v0 r, w, lo, v, A, hw, hd, hi, hH => by
    have hhd : (Tr.nd i l k v0 r).ht = 1 + max l.ht r.ht := rfl
    obtain ⟨hri, hrl, hrr⟩ := hi.roots hw
    have h0 : i ≠ 0 := by have := hi.1; omega
    have hkn : A.nodeOf i = mkN A k v0 l.root r.root := hi.nodeOf
    have hlr := mkN_lr A k v0 l.root r.root
    rw [← hkn] at hlr
    have hdl := (dump_len hw).1
    obtain ⟨s1, c1, s2, c2, rfl, _, _⟩ := hd.b
    rw [hhd]
    rw [show (Tr.nd i l k v0 r).root = i from rfl]
    refine calls_go Try.func11 rfl Try.ntmps11 (Nat.le_of_ble_eq_true rfl) ?_
    repeat (first | refine sp ?_ | (refine is_load ?_; refine ld ?_) | (refine is_store ?_; refine sr ?_) | (refine is_alloc ?_; refine al ?_) | (refine is_box ?_; refine bx ?_) | (refine isl_load ?_; refine ldl ?_) | (refine isl_store ?_; refine srl ?_) | (refine isl_alloc ?_; refine all' ?_) | (refine isl_box ?_; refine bxl ?_))
    refine go_name (F := fun w1 => At w1 w.heap.size [.slice s1 A.dump.slots.length c1, .slice s2 A.dump.free.length c2] 31 ∧ Ext w w1) ⟨by (repeat (first | assumption | (refine At.new' (by (first | omega | (simp; done) | (simp; omega))) _ _) | apply At.alloc | apply At.drewN | apply At.setRow | (apply At.setRow_neF; first | assumption | (apply Ne.symm; assumption) | omega) | (apply At.extF; assumption))), by (repeat (first | exact Fr.refl _ _ | assumption | apply Fr.drewN | apply Fr.alloc | (apply Fr.transF; assumption) | (refine Fr.setRow ?_ _ (by first | exact Or.inr (by (first | omega | (simp; done) | (simp; omega))) | (exact Or.inl (by first | assumption | (simp; done)))))))⟩ ?_
    rintro w1 ⟨hb1, hx1⟩
    refine go_call rfl rfl (c_ref7node w1 lo _ A.dump i (hd.ext hx1) hdl hri) ?_
    rintro _ w2 ⟨rfl, hx2⟩
    have hb2 := hb1.ext hx2
    have hx2' := hx1.trans hx2
    have hl2 := hb2.lt
    rw [dump_nd hw]
    obtain ⟨N, hN⟩ : ∃ N, A.nodeOf i = N := ⟨_, rfl⟩
    rw [hN] at hlr ⊢
    unfold Nd.cells
    repeat (first | refine sp ?_ | (refine is_load ?_; refine ld ?_) | (refine is_store ?_; refine sr ?_) | (refine is_alloc ?_; refine al ?_) | (refine is_box ?_; refine bx ?_) | (refine isl_load ?_; refine ldl ?_) | (refine isl_store ?_; refine srl ?_) | (refine isl_alloc ?_; refine all' ?_) | (refine isl_box ?_; refine bxl ?_))
    refine go_name (F := fun w3 => At w3 w2.heap.size [.int .i64 N.key, .int .i64 N.val, .int .u32 (N.left : Int), .int .u32 (N.right : Int), .int .i64 N.size, .int .i64 N.sum, .int .i64 N.mn, .int .i64 N.mx] 41 ∧ At w3 w.heap.size [.slice s1 A.dump.slots.length c1, .slice s2 A.dump.free.length c2] 31 ∧ Ext w2 w3) ⟨by (repeat (first | assumption | (refine At.new' (by (first | omega | (simp; done) | (simp; omega))) _ _) | apply At.alloc | apply At.drewN | apply At.setRow | (apply At.setRow_neF; first | assumption | (apply Ne.symm; assumption) | omega) | (apply At.extF; assumption))), by (repeat (first | assumption | (refine At.new' (by (first | omega | (simp; done) | (simp; omega))) _ _) | apply At.alloc | apply At.drewN | apply At.setRow | (apply At.setRow_neF; first | assumption | (apply Ne.symm; assumption) | omega) | (apply At.extF; assumption))), by (repeat (first | exact Fr.refl _ _ | assumption | apply Fr.drewN | apply Fr.alloc | (apply Fr.transF; assumption) | (refine Fr.setRow ?_ _ (by first | exact Or.inr (by (first | omega | (simp; done) | (simp; omega))) | (exact Or.inl (by first | assumption | (simp; done)))))))⟩ ?_
    rintro w3 ⟨hat, hb3, hx3⟩
    rw [hlr.2.2.1, hlr.2.2.2] at hat
    refine go_drawE (Fr (fun _ => False) w3) 0 Try.follows (by kernel_rfl) (by kernel_rfl) (by kernel_rfl) ((Fr.refl _ _).drewN 1) ?_
    repeat (first | refine sp ?_ | (refine is_load ?_; refine ld ?_) | (refine is_store ?_; refine sr ?_) | (refine is_alloc ?_; refine al ?_) | (refine is_box ?_; refine bx ?_) | (refine isl_load ?_; refine ldl ?_) | (refine isl_store ?_; refine srl ?_) | (refine isl_alloc ?_; refine all' ?_) | (refine isl_box ?_; refine bxl ?_))
    have hx3' : Ext w (w3.drewN 1) := (hx2'.trans hx3).trans ((Fr.refl _ _).drewN 1)
    refine gol_call rfl rfl (c_ref7Height l _ lo _ A hw (hd.ext hx3') hi.2.2.2.1 (by omega)) ?_
    rintro _ w4 ⟨rfl, hx4⟩
    have hx4' : Ext w3 w4 := Fr.trans ((Fr.refl _ _).drewN 1) hx4
    refine ⟨hx4', ?_⟩
    repeat (first | refine sp ?_ | (refine is_load ?_; refine ld ?_) | (refine is_store ?_; refine sr ?_) | (refine is_alloc ?_; refine al ?_) | (refine is_box ?_; refine bx ?_) | (refine isl_load ?_; refine ldl ?_) | (refine isl_store ?_; refine srl ?_) | (refine isl_alloc ?_; refine all' ?_) | (refine isl_box ?_; refine bxl ?_))
    refine gol_call rfl rfl (c_ref7Height r w4 lo _ A hw (hd.ext ((hx2'.trans hx3).trans hx4')) hi.2.2.2.2 (by omega)) ?_
    rintro _ w5 ⟨rfl, hx5⟩
    refine ⟨hx4'.trans hx5, ?_⟩
    have hm : ((1 + max l.ht r.ht : Nat) : Int) = 1 + (if (r.ht : Int) > (l.ht : Int) then (r.ht : Int) else (l.ht : Int)) := by
      split <;> omega
    repeat (first | refine sp ?_ | (refine is_load ?_; refine ld ?_) | (refine is_store ?_; refine sr ?_) | (refine is_alloc ?_; refine al ?_) | (refine is_box ?_; refine bx ?_) | (refine isl_load ?_; refine ldl ?_) | (refine isl_store ?_; refine srl ?_) | (refine isl_alloc ?_; refine all' ?_) | (refine isl_box ?_; refine bxl ?_))
    exact go_ret1 rfl rfl ⟨_, rfl, by rw [hm], ((hx2'.trans hx3).trans hx4').trans hx5⟩

end Go.Proofs.Ytfaeboamjfdjlaa
