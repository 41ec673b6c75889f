/-
  The program's audit: the function that marks a slot, the marks, the reachable slots.
-/
import Derived.Test.YtapocbahkeoeoaaAu2
set_option linter.unusedVariables false
namespace Go.Proofs.Ytapocbahkeoeoaa
open Go.Vc

/-- On the way: what is marked ('P'), what is marked but not yet looked into ('ws'), what is still to be visited ('todo'). -/
structure MkJ (D : Dp) (roots : List Nat) (P : Nat → Bool) (ws todo : List Nat) : Prop where
  s1 : ∀ j, j < D.slots.length → P j = true → D.Reach roots (j + 1)
  s2 : ∀ x ∈ todo, D.al x = true → D.Reach roots x
  s3 : ∀ r ∈ roots, D.al r = true → P (r - 1) = true ∨ r ∈ todo
  s4 : ∀ j, j < D.slots.length → P j = true → j + 1 ∈ ws ∨ ∀ c ∈ D.kd (j + 1), D.al c = true → P (c - 1) = true ∨ c ∈ todo
  s5 : ∀ x ∈ ws, D.al x = true ∧ P (x - 1) = true

theorem MkJ.init (D : Dp) (roots : List Nat) : MkJ D roots (fun _ => false) [] roots :=
  ⟨(fun _ _ h => by cases h), fun x hx ha => .root hx ha, fun r hr _ => Or.inr hr, (fun _ _ h => by cases h), fun x hx => by cases hx⟩

def visP (D : Dp) (P : Nat → Bool) (i : Nat) : Nat → Bool := if D.al i = true ∧ P (i - 1) = false then upd P (i - 1) true else P
def visW (D : Dp) (P : Nat → Bool) (i : Nat) (ws : List Nat) : List Nat := if D.al i = true ∧ P (i - 1) = false then ws ++ [i] else ws

theorem MkJ.vis {D : Dp} {roots : List Nat} {P : Nat → Bool} {ws todo : List Nat} {x : Nat} (h : MkJ D roots P ws (x :: todo)) : MkJ D roots (visP D P x) (visW D P x ws) todo := by
  by_cases hx : D.al x = true ∧ P (x - 1) = false
  · have e1 : visP D P x = upd P (x - 1) true := by unfold visP; rw [if_pos hx]
    have e2 : visW D P x ws = ws ++ [x] := by unfold visW; rw [if_pos hx]
    rw [e1, e2]
    obtain ⟨y, rfl, hy, _⟩ := Dp.al_lt hx.1
    have hr := h.s2 _ (by simp) hx.1
    have up : ∀ c, P (c - 1) = true ∨ c ∈ (y + 1) :: todo → upd P (y + 1 - 1) true (c - 1) = true ∨ c ∈ todo := by
      intro c hc
      rcases hc with hc | hc
      · left; unfold upd; split
        · rfl
        · exact hc
      · rcases List.mem_cons.1 hc with rfl | hc
        · left; simp [upd]
        · exact Or.inr hc
    refine ⟨fun j hj hp => ?_, fun z hz => h.s2 z (by simp [hz]), fun r hr1 har => up r (h.s3 r hr1 har), fun j hj hp => ?_, fun z hz => ?_⟩
    · by_cases e : j = y
      · subst e; exact hr
      · rw [upd_ne _ _ (by simpa using e)] at hp; exact h.s1 j hj hp
    · by_cases e : j = y
      · left; subst e; simp
      · rw [upd_ne _ _ (by simpa using e)] at hp
        rcases h.s4 j hj hp with h4 | h4
        · left; simp [h4]
        · right; exact fun c hc hac => up c (h4 c hc hac)
    · rcases List.mem_append.1 hz with hz | hz
      · obtain ⟨a, b⟩ := h.s5 z hz
        refine ⟨a, ?_⟩
        unfold upd; split
        · rfl
        · exact b
      · simp at hz; subst hz; exact ⟨hx.1, by simp [upd]⟩
  · have e1 : visP D P x = P := by unfold visP; rw [if_neg hx]
    have e2 : visW D P x ws = ws := by unfold visW; rw [if_neg hx]
    rw [e1, e2]
    have hp : D.al x = true → P (x - 1) = true := fun ha => by
      cases e : P (x - 1) with
      | true => rfl
      | false => exact absurd ⟨ha, e⟩ hx
    have up : ∀ c, D.al c = true → P (c - 1) = true ∨ c ∈ x :: todo → P (c - 1) = true ∨ c ∈ todo := by
      intro c hac hc
      rcases hc with hc | hc
      · exact Or.inl hc
      · rcases List.mem_cons.1 hc with rfl | hc
        · exact Or.inl (hp hac)
        · exact Or.inr hc
    refine ⟨h.s1, fun z hz => h.s2 z (by simp [hz]), fun r hr1 har => up r har (h.s3 r hr1 har), fun j hj hp => ?_, h.s5⟩
    rcases h.s4 j hj hp with h4 | h4
    · exact Or.inl h4
    · exact Or.inr fun c hc hac => up c hac (h4 c hc hac)

theorem MkJ.pop {D : Dp} {roots : List Nat} {P : Nat → Bool} {ws : List Nat} {x : Nat} (h : MkJ D roots P (ws ++ [x]) []) : MkJ D roots P ws (D.kd x) := by
  obtain ⟨ha, hp⟩ := h.s5 x (by simp)
  obtain ⟨y, rfl, hy, _⟩ := Dp.al_lt ha
  have hr := h.s1 y hy (by simpa using hp)
  refine ⟨h.s1, fun z hz haz => .kid hr hz haz, fun r hr1 har => ?_, fun j hj hp => ?_, fun z hz => h.s5 z (by simp [hz])⟩
  · rcases h.s3 r hr1 har with h3 | h3
    · exact Or.inl h3
    · cases h3
  · by_cases e : j = y
    · subst e; exact Or.inr fun c hc _ => Or.inr hc
    · rcases h.s4 j hj hp with h4 | h4
      · left
        rcases List.mem_append.1 h4 with h4 | h4
        · exact h4
        · simp at h4; exact absurd h4 e
      · right
        intro c hc hac
        rcases h4 c hc hac with h5 | h5
        · exact Or.inl h5
        · cases h5

theorem MkJ.fin {D : Dp} {roots : List Nat} {P : Nat → Bool} (h : MkJ D roots P [] []) : Marks D roots P := by
  have key : ∀ i, D.Reach roots i → P (i - 1) = true := by
    intro i hr
    induction hr with
    | root hm ha =>
      rcases h.s3 _ hm ha with h | h
      · exact h
      · cases h
    | kid hk hc ha ih =>
      obtain ⟨j, rfl, hj, _⟩ := Dp.al_lt hk.al
      rcases h.s4 j hj (by simpa using ih) with h | h
      · cases h
      · rcases h _ hc ha with h | h
        · exact h
        · cases h
  intro j hj
  exact ⟨h.s1 j hj, fun hr => by simpa using key _ hr⟩

theorem vis_bd {D : Dp} {P : Nat → Bool} {ws : List Nat} {i n : Nat} (hn : D.slots.length = n) : (visW D P i ws).length + unm (visP D P i) n = ws.length + unm P n ∧ (visW D P i ws).length + 2 * unm (visP D P i) n ≤ ws.length + 2 * unm P n := by
  unfold visW visP
  by_cases hx : D.al i = true ∧ P (i - 1) = false
  · rw [if_pos hx, if_pos hx]
    obtain ⟨y, rfl, hy, _⟩ := Dp.al_lt hx.1
    have := unm_mark (n := n) (y := y) (P := P) (by omega) (by simpa using hx.2)
    rw [show y + 1 - 1 = y by omega, List.length_append, List.length_singleton]
    omega
  · rw [if_neg hx, if_neg hx]; omega

/-- The cells that the marking function shares with its owner. -/
structure VS (w0 w : World) (D : Dp) (s1 s2 : Option Addr) (c1 c2 b2 b5 b6 sb : Nat) (P : Nat → Bool) (v : Value) (ws : List Nat) : Prop where
  db : At w b2 [.slice s1 D.slots.length c1, .slice s2 D.free.length c2] 36
  sc : At w b5 [.slice (some ⟨sb, 0, none⟩) D.slots.length D.slots.length] 48
  wc : At w b6 [v] 34
  sn : At w sb (cellsF (fun j => [.bool (P j)]) D.slots.length) 4
  wk : OwnN w w0.heap.size v ws
  ext : Ext w0 w
  l5 : w0.heap.size ≤ b5
  l6 : w0.heap.size ≤ b6
  ls : w0.heap.size ≤ sb

set_option maxHeartbeats 4000000 in
theorem a_visit (w0 w : World) (lo : Nat) (D : Dp) (s1 s2 : Option Addr) (c1 c2 b2 b5 b6 sb : Nat) (P : Nat → Bool) (v : Value) (ws : List Nat) (i : Nat)
    (hd : DpAt w0 lo (.agg ⟨[.slice s1 D.slots.length c1, .slice s2 D.free.length c2]⟩) D) (hk : D.slots.length ≤ 1000000) (h : VS w0 w D s1 s2 c1 c2 b2 b5 b6 sb P v ws) (hi : i < 4294967296) (hl : ws.length ≤ 2000000) :
    Calls Try.prog 84 [.int .u32 (i : Int), ptr b2, ptr b5, ptr b6].toArray w (Ret fun r w' => r = .tuple #[] ∧ ∃ v', VS w0 w' D s1 s2 c1 c2 b2 b5 b6 sb (visP D P i) v' (visW D P i ws)) := by
  obtain ⟨hdb, hsc, hwc, hsn, hwk, hx, l5, l6, ls⟩ := h
  refine calls_go Try.func84 rfl Try.ntmps84 (Nat.le_of_ble_eq_true rfl) ?_
  repeat (first | refine sp ?_ | (refine is_load ?_; refine ld ?_) | (refine is_store ?_; refine sr ?_) | (refine is_alloc ?_; refine al ?_) | (refine is_box ?_; refine bx ?_) | (refine isl_load ?_; refine ldl ?_) | (refine isl_store ?_; refine srl ?_) | (refine isl_alloc ?_; refine all' ?_) | (refine isl_box ?_; refine bxl ?_) | refine dr Try.follows ?_)
  refine go_call rfl rfl (a_allocated w lo _ D i (hd.ext hx) hk hi) ?_
  rintro _ w1 ⟨rfl, hx1⟩
  replace hdb := hdb.ext hx1
  replace hsc := hsc.ext hx1
  replace hwc := hwc.ext hx1
  replace hsn := hsn.ext hx1
  replace hwk := hwk.ext hx1
  replace hx := hx.trans hx1
  cases hal : D.al i with
  | false =>
    have e1 : visP D P i = P := by unfold visP; rw [if_neg (fun h => by rw [hal] at h; cases h.1)]
    have e2 : visW D P i ws = ws := by unfold visW; rw [if_neg (fun h => by rw [hal] at h; cases h.1)]
    rw [e1, e2]
    repeat (first | refine sp ?_ | (refine is_load ?_; refine ld ?_) | (refine is_store ?_; refine sr ?_) | (refine is_alloc ?_; refine al ?_) | (refine is_box ?_; refine bx ?_) | (refine isl_load ?_; refine ldl ?_) | (refine isl_store ?_; refine srl ?_) | (refine isl_alloc ?_; refine all' ?_) | (refine isl_box ?_; refine bxl ?_) | refine dr Try.follows ?_)
    exact go_end0 rfl ⟨_, rfl, rfl, v, hdb, hsc, hwc, hsn, hwk, hx, l5, l6, ls⟩
  | true =>
    obtain ⟨y, rfl, hy, hon⟩ := Dp.al_lt hal
    have hcl : (cellsF (fun j => [Value.bool (P j)]) D.slots.length)[0 + y]? = some (.bool (P y)) := by
      rw [Nat.zero_add]; exact one_get (f := fun j => Value.bool (P j)) hy
    repeat (first | refine sp ?_ | (refine is_load ?_; refine ld ?_) | (refine is_store ?_; refine sr ?_) | (refine is_alloc ?_; refine al ?_) | (refine is_box ?_; refine bx ?_) | (refine isl_load ?_; refine ldl ?_) | (refine isl_store ?_; refine srl ?_) | (refine isl_alloc ?_; refine all' ?_) | (refine isl_box ?_; refine bxl ?_) | refine dr Try.follows ?_)
    refine go_as 11 (u' := .int .u32 (y : Int)) rfl (by congr 1; omega) ?_
    repeat (first | refine sp ?_ | (refine is_load ?_; refine ld ?_) | (refine is_store ?_; refine sr ?_) | (refine is_alloc ?_; refine al ?_) | (refine is_box ?_; refine bx ?_) | (refine isl_load ?_; refine ldl ?_) | (refine isl_store ?_; refine srl ?_) | (refine isl_alloc ?_; refine all' ?_) | (refine isl_box ?_; refine bxl ?_) | refine dr Try.follows ?_)
    cases hp : P y with
    | true =>
      have e1 : visP D P (y + 1) = P := by unfold visP; rw [if_neg (fun h => by have := h.2; simp [hp] at this)]
      have e2 : visW D P (y + 1) ws = ws := by unfold visW; rw [if_neg (fun h => by have := h.2; simp [hp] at this)]
      rw [e1, e2]
      repeat (first | refine sp ?_ | (refine is_load ?_; refine ld ?_) | (refine is_store ?_; refine sr ?_) | (refine is_alloc ?_; refine al ?_) | (refine is_box ?_; refine bx ?_) | (refine isl_load ?_; refine ldl ?_) | (refine isl_store ?_; refine srl ?_) | (refine isl_alloc ?_; refine all' ?_) | (refine isl_box ?_; refine bxl ?_) | refine dr Try.follows ?_)
      exact go_end0 rfl ⟨_, rfl, rfl, v, hdb, hsc, hwc, hsn, hwk, hx, l5, l6, ls⟩
    | false =>
      have e1 : visP D P (y + 1) = upd P y true := by unfold visP; rw [if_pos ⟨hal, by simpa using hp⟩]; simp
      have e2 : visW D P (y + 1) ws = ws ++ [y + 1] := by unfold visW; rw [if_pos ⟨hal, by simpa using hp⟩]
      rw [e1, e2]
      have es : (cellsF (fun j => [Value.bool (P j)]) D.slots.length).set (0 + y) (.bool true) = cellsF (fun j => [Value.bool (upd P y true j)]) D.slots.length := by
        rw [Nat.zero_add]; exact one_set' Value.bool P hy
      repeat (first | refine sp ?_ | (refine is_load ?_; refine ld ?_) | (refine is_alloc ?_; refine al ?_) | (refine is_box ?_; refine bx ?_) | (refine isl_load ?_; refine ldl ?_) | (refine isl_alloc ?_; refine all' ?_) | (refine isl_box ?_; refine bxl ?_) | refine dr Try.follows ?_)
      refine go_as 18 (u' := .int .u32 (y : Int)) rfl (by congr 1; omega) ?_
      repeat (first | refine sp ?_ | (refine is_load ?_; refine ld ?_) | (refine is_alloc ?_; refine al ?_) | (refine is_box ?_; refine bx ?_) | (refine isl_load ?_; refine ldl ?_) | (refine isl_alloc ?_; refine all' ?_) | (refine isl_box ?_; refine bxl ?_) | refine dr Try.follows ?_)
      refine go_store rfl rfl (st_at hsn (by simp; omega) rfl) ?_
      rw [es]
      obtain ⟨sv, cv, rfl, hcv, hrv⟩ := hwk.slice
      have hwk2 : OwnN (w1.setRow sb (cellsF (fun j => [Value.bool (upd P y true j)]) D.slots.length).toArray) w0.heap.size (.slice sv ws.length cv) ws := OwnN.setRow hwk hsn (by decide) _
      have n1 := hdb.ne hsn (by decide)
      have n2 := hsc.ne hsn (by decide)
      have n3 := hwc.ne hsn (by decide)
      refine go_name (F := fun w2 => VS w0 w2 D s1 s2 c1 c2 b2 b5 b6 sb (upd P y true) (.slice sv ws.length cv) ws) ⟨by (repeat (first | assumption | (refine At.new' (by (first | omega | (simp; done) | (simp; omega))) _ _) | apply At.alloc | apply At.drewN | apply At.setRow | (apply At.setRow_neF; first | assumption | (apply Ne.symm; assumption) | omega) | (apply At.extF; assumption))), by (repeat (first | assumption | (refine At.new' (by (first | omega | (simp; done) | (simp; omega))) _ _) | apply At.alloc | apply At.drewN | apply At.setRow | (apply At.setRow_neF; first | assumption | (apply Ne.symm; assumption) | omega) | (apply At.extF; assumption))), by (repeat (first | assumption | (refine At.new' (by (first | omega | (simp; done) | (simp; omega))) _ _) | apply At.alloc | apply At.drewN | apply At.setRow | (apply At.setRow_neF; first | assumption | (apply Ne.symm; assumption) | omega) | (apply At.extF; assumption))), hsn.setRow _, hwk2, Fr.setRow hx _ (Or.inr ls), l5, l6, ls⟩ ?_
      clear hdb hsc hwc hsn hwk hx hwk2
      rintro w2 ⟨hdb, hsc, hwc, hsn, hwk, hx, _, _, _⟩
      repeat (first | refine sp ?_ | (refine is_load ?_; refine ld ?_) | (refine is_store ?_; refine sr ?_) | (refine is_alloc ?_; refine al ?_) | (refine is_box ?_; refine bx ?_) | (refine isl_load ?_; refine ldl ?_) | (refine isl_store ?_; refine srl ?_) | (refine isl_alloc ?_; refine all' ?_) | (refine isl_box ?_; refine bxl ?_) | refine dr Try.follows ?_)
      refine go_pushG (by decide) rfl rfl rfl rfl hwk rfl (one_u32 _) (by omega) (by simp [maxLen]; omega) (by omega) hx.size ?_
      intro v3 w3 ho3 hg3 hbk3
      have hf := Fr.of_grown hg3
      have hdb3 := hdb.fr hf (hwk.nec' hdb (by decide))
      have hsc3 := hsc.fr hf (hwk.nec' hsc (by decide))
      have hwc3 := hwc.fr hf (hwk.nec' hwc (by decide))
      have hsn3 := hsn.fr hf (hwk.nec' hsn (by decide))
      have hx3 : Ext w0 w3 := ext_grown hx (Nat.le_refl _) hwk hg3
      have ho4 : OwnN w3 w0.heap.size v3 (ws ++ [y + 1]) := by unfold OwnN; rw [List.map_append, List.length_append]; simpa using ho3
      obtain ⟨s3, c3, rfl, _, _⟩ := ho4.slice
      have n4 := hdb3.ne hwc3 (by decide)
      have n5 := hsc3.ne hwc3 (by decide)
      have n6 := hsn3.ne hwc3 (by decide)
      repeat (first | refine sp ?_ | (refine is_load ?_; refine ld ?_) | (refine is_store ?_; refine sr ?_) | (refine is_alloc ?_; refine al ?_) | (refine is_box ?_; refine bx ?_) | (refine isl_load ?_; refine ldl ?_) | (refine isl_store ?_; refine srl ?_) | (refine isl_alloc ?_; refine all' ?_) | (refine isl_box ?_; refine bxl ?_) | refine dr Try.follows ?_)
      exact go_end0 rfl ⟨_, rfl, rfl, _, by (repeat (first | assumption | (refine At.new' (by (first | omega | (simp; done) | (simp; omega))) _ _) | apply At.alloc | apply At.drewN | apply At.setRow | (apply At.setRow_neF; first | assumption | (apply Ne.symm; assumption) | omega) | (apply At.extF; assumption))), by (repeat (first | assumption | (refine At.new' (by (first | omega | (simp; done) | (simp; omega))) _ _) | apply At.alloc | apply At.drewN | apply At.setRow | (apply At.setRow_neF; first | assumption | (apply Ne.symm; assumption) | omega) | (apply At.extF; assumption))), hwc3.setRow _, by (repeat (first | assumption | (refine At.new' (by (first | omega | (simp; done) | (simp; omega))) _ _) | apply At.alloc | apply At.drewN | apply At.setRow | (apply At.setRow_neF; first | assumption | (apply Ne.symm; assumption) | omega) | (apply At.extF; assumption))), OwnN.setRow ho4 hwc3 (by decide) _, Fr.setRow hx3 _ (Or.inr l6), l5, l6, ls⟩

set_option maxHeartbeats 4000000 in
theorem a_marks (w : World) (lo hi : Nat) (v rv : Value) (D : Dp) (roots : List Nat) (hd : DpAt w lo v D) (hok : D.Ok) (hr : RdU w hi rv u32c roots) (hh : hi ≤ w.heap.size) (hrl : roots.length ≤ 1000000) (hrb : ∀ x ∈ roots, x < 4294967296) :
    Calls Try.prog 65 [v, rv].toArray w (Ret fun r w' => ∃ P, BoolsAt w' w.heap.size r P D.slots.length ∧ Marks D roots P ∧ Ext w w') := by
  have hln := hok.len
  have hd0 := hd
  obtain ⟨sv, fv, rfl, hs, hf⟩ := hd
  have hs' := hs.up
  obtain ⟨s1, c1, rfl, h1, _, _⟩ := hs
  obtain ⟨s2, c2, rfl, h2, _, _⟩ := hf
  obtain ⟨sa, cap, rfl, hlc, hrc, _⟩ := id hr
  refine calls_go Try.func65 rfl Try.ntmps65 (Nat.le_of_ble_eq_true rfl) ?_
  repeat (first | refine sp ?_ | (refine is_load ?_; refine ld ?_) | (refine is_store ?_; refine sr ?_) | (refine is_alloc ?_; refine al ?_) | (refine is_box ?_; refine bx ?_) | (refine isl_load ?_; refine ldl ?_) | (refine isl_store ?_; refine srl ?_) | (refine isl_alloc ?_; refine all' ?_) | (refine isl_box ?_; refine bxl ?_) | refine dr Try.follows ?_)
  refine go_makeF (c := D.slots.length) rfl rfl rfl rfl rfl (by omega) (by unfold maxLen; omega) rfl ?_
  refine go_name (F := fun w1 => At w1 w.heap.size [.slice s1 D.slots.length c1, .slice s2 D.free.length c2] 36 ∧ At w1 (w.heap.size + 1) (cellsF (fun _ => [.bool false]) D.slots.length) 4 ∧ Ext w w1 ∧ w1.heap.size = w.heap.size + 2) ⟨by (repeat (first | assumption | (refine At.new' (by (first | omega | (simp; done) | (simp; omega))) _ _) | apply At.alloc | apply At.drewN | apply At.setRow | (apply At.setRow_neF; first | assumption | (apply Ne.symm; assumption) | omega) | (apply At.extF; assumption))), by (repeat (first | assumption | (refine At.new' (by (first | omega | (simp; done) | (simp; omega))) _ _) | apply At.alloc | apply At.drewN | apply At.setRow | (apply At.setRow_neF; first | assumption | (apply Ne.symm; assumption) | omega) | (apply At.extF; assumption))), by (repeat (first | exact Fr.refl _ _ | assumption | apply Fr.drewN | apply Fr.alloc | (apply Fr.transF; assumption) | (refine Fr.setRow ?_ _ (by first | exact Or.inr (by (first | omega | (simp; done) | (simp; omega))) | (exact Or.inl (by first | assumption | (simp; done))))))), by simp⟩ ?_
  rintro w1 ⟨hdb, hat, hx1, hz1⟩
  refine go_as 16 (u' := .slice (some ⟨w.heap.size + 1, 0, none⟩) D.slots.length D.slots.length) rfl (by simp) ?_
  repeat (first | refine sp ?_ | (refine is_load ?_; refine ld ?_) | (refine is_store ?_; refine sr ?_) | (refine is_alloc ?_; refine al ?_) | (refine is_box ?_; refine bx ?_) | (refine isl_load ?_; refine ldl ?_) | (refine isl_store ?_; refine srl ?_) | (refine isl_alloc ?_; refine all' ?_) | (refine isl_box ?_; refine bxl ?_) | refine dr Try.follows ?_)
  refine go_p rfl (pr_makeFunc rfl) ?_
  repeat (first | refine sp ?_ | (refine is_load ?_; refine ld ?_) | (refine is_store ?_; refine sr ?_) | (refine is_alloc ?_; refine al ?_) | (refine is_box ?_; refine bx ?_) | (refine isl_load ?_; refine ldl ?_) | (refine isl_store ?_; refine srl ?_) | (refine isl_alloc ?_; refine all' ?_) | (refine isl_box ?_; refine bxl ?_) | refine dr Try.follows ?_)
  refine go_name (F := fun w2 => VS w w2 D s1 s2 c1 c2 w.heap.size w1.heap.size (w1.heap.size + 1) (w.heap.size + 1) (fun _ => false) (.slice none 0 0) []) ⟨by (repeat (first | assumption | (refine At.new' (by (first | omega | (simp; done) | (simp; omega))) _ _) | apply At.alloc | apply At.drewN | apply At.setRow | (apply At.setRow_neF; first | assumption | (apply Ne.symm; assumption) | omega) | (apply At.extF; assumption))), by (repeat (first | assumption | (refine At.new' (by (first | omega | (simp; done) | (simp; omega))) _ _) | apply At.alloc | apply At.drewN | apply At.setRow | (apply At.setRow_neF; first | assumption | (apply Ne.symm; assumption) | omega) | (apply At.extF; assumption))), by (repeat (first | assumption | (refine At.new' (by (first | omega | (simp; done) | (simp; omega))) _ _) | apply At.alloc | apply At.drewN | apply At.setRow | (apply At.setRow_neF; first | assumption | (apply Ne.symm; assumption) | omega) | (apply At.extF; assumption))), by (repeat (first | assumption | (refine At.new' (by (first | omega | (simp; done) | (simp; omega))) _ _) | apply At.alloc | apply At.drewN | apply At.setRow | (apply At.setRow_neF; first | assumption | (apply Ne.symm; assumption) | omega) | (apply At.extF; assumption))), OwnN.nil _ _, by (repeat (first | exact Fr.refl _ _ | assumption | apply Fr.drewN | apply Fr.alloc | (apply Fr.transF; assumption) | (refine Fr.setRow ?_ _ (by first | exact Or.inr (by (first | omega | (simp; done) | (simp; omega))) | (exact Or.inl (by first | assumption | (simp; done))))))), by omega, by omega, by omega⟩ ?_
  rintro w2 hV
  clear hdb hat
  generalize w1.heap.size = b5 at *
  have hun := unm_le (fun _ => false) D.slots.length
  refine go_loop (G := Nat × (Nat → Bool) × Value × List Nat) [20] (fun ⟨k, _, _, _⟩ => [.int .i64 (k : Int)]) [(2, ptr w.heap.size), (5, ptr b5), (6, ptr (b5 + 1)), (7, .func (.func 84) #[] [ptr w.heap.size, ptr b5, ptr (b5 + 1)].toArray), (18, .slice sa roots.length cap), (19, .int .i64 (roots.length : Int))]
    (fun ⟨k, P, v, ws⟩ w' => k ≤ roots.length ∧ VS w w' D s1 s2 c1 c2 w.heap.size b5 (b5 + 1) (w.heap.size + 1) P v ws ∧ MkJ D roots P ws (roots.drop k) ∧ ws.length + unm P D.slots.length ≤ D.slots.length) (fun g => roots.length - g.1) (0, (fun _ => false), .slice none 0 0, []) rfl ⟨rfl, rfl, rfl, rfl, rfl, rfl, trivial⟩ ⟨by omega, hV, MkJ.init D roots, by simpa using hun⟩ ?_
  clear hV
  rintro ⟨k, P, v, ws⟩ w3 ⟨hk, hV, hJ, hB⟩
  by_cases hlt : k < roots.length
  · obtain ⟨b, o, e, hbl, hcell⟩ := (hr.ext hV.ext).at (m := 1) (fun _ => rfl) (by omega) hlt
    subst e
    have e0 : w3.cell? ⟨b, o + k, none⟩ = some (.int .u32 (roots[k] : Int)) := by have := hcell 0 (.int .u32 (roots[k] : Int)) rfl; simpa using this
    have hbx := hrb _ (List.getElem_mem hlt)
    have hdr : roots.drop k = roots[k] :: roots.drop (k + 1) := List.drop_eq_getElem_cons hlt
    rw [hdr] at hJ
    generalize roots[k] = x at *
    have hvb := vis_bd (P := P) (ws := ws) (i := x) (rfl : D.slots.length = _)
    repeat (first | refine sp ?_ | (refine is_load ?_; refine ld ?_) | (refine is_store ?_; refine sr ?_) | (refine is_alloc ?_; refine al ?_) | (refine is_box ?_; refine bx ?_) | (refine isl_load ?_; refine ldl ?_) | (refine isl_store ?_; refine srl ?_) | (refine isl_alloc ?_; refine all' ?_) | (refine isl_box ?_; refine bxl ?_) | refine dr Try.follows ?_)
    refine go_callv rfl rfl rfl (a_visit w w3 lo D s1 s2 c1 c2 _ b5 (b5 + 1) _ P v ws x hd0 (by omega) hV hbx (by omega)) ?_
    rintro _ w4 ⟨rfl, v', hV'⟩
    repeat (first | refine sp ?_ | (refine is_load ?_; refine ld ?_) | (refine is_store ?_; refine sr ?_) | (refine is_alloc ?_; refine al ?_) | (refine is_box ?_; refine bx ?_) | (refine isl_load ?_; refine ldl ?_) | (refine isl_store ?_; refine srl ?_) | (refine isl_alloc ?_; refine all' ?_) | (refine isl_box ?_; refine bxl ?_) | refine dr Try.follows ?_)
    exact go_stop (G := Nat × (Nat → Bool) × Value × List Nat) (k + 1, _, v', _) rfl ⟨rfl, rfl, rfl, rfl, rfl, rfl, trivial⟩ ⟨hlt, hV', hJ.vis, by omega⟩ (by show roots.length - (k + 1) < roots.length - k; omega)
  obtain rfl : k = roots.length := by omega
  rw [List.drop_length] at hJ
  repeat (first | refine sp ?_ | (refine is_load ?_; refine ld ?_) | (refine is_store ?_; refine sr ?_) | (refine is_alloc ?_; refine al ?_) | (refine is_box ?_; refine bx ?_) | (refine isl_load ?_; refine ldl ?_) | (refine isl_store ?_; refine srl ?_) | (refine isl_alloc ?_; refine all' ?_) | (refine isl_box ?_; refine bxl ?_) | refine dr Try.follows ?_)
  refine go_loop (G := (Nat → Bool) × Value × List Nat) [] (fun _ => []) [(2, ptr w.heap.size), (5, ptr b5), (6, ptr (b5 + 1)), (7, .func (.func 84) #[] [ptr w.heap.size, ptr b5, ptr (b5 + 1)].toArray)]
    (fun ⟨P, v, ws⟩ w' => VS w w' D s1 s2 c1 c2 w.heap.size b5 (b5 + 1) (w.heap.size + 1) P v ws ∧ MkJ D roots P ws [] ∧ ws.length + unm P D.slots.length ≤ D.slots.length) (fun g => 2 * unm g.1 D.slots.length + g.2.2.length) (P, v, ws) rfl ⟨rfl, rfl, rfl, rfl, trivial⟩ ⟨hV, hJ, hB⟩ ?_
  clear hV hJ hB
  rintro ⟨P, v, ws⟩ w3 ⟨hV, hJ, hB⟩
  obtain ⟨hdb, hsc, hwc, hsn, hwk, hx, l5, l6, ls⟩ := id hV
  rcases List.eq_nil_or_concat ws with rfl | ⟨ws', x, rfl⟩
  · obtain ⟨sv, cv, rfl, _, _⟩ := hwk.slice
    repeat (first | refine sp ?_ | (refine is_load ?_; refine ld ?_) | (refine is_store ?_; refine sr ?_) | (refine is_alloc ?_; refine al ?_) | (refine is_box ?_; refine bx ?_) | (refine isl_load ?_; refine ldl ?_) | (refine isl_store ?_; refine srl ?_) | (refine isl_alloc ?_; refine all' ?_) | (refine isl_box ?_; refine bxl ?_) | refine dr Try.follows ?_)
    exact go_ret1 rfl rfl ⟨_, rfl, P, ⟨_, rfl, by omega, hsn⟩, hJ.fin, hx⟩
  · rw [List.concat_eq_append] at *
    obtain ⟨hax, _⟩ := hJ.s5 x (by simp)
    obtain ⟨y, rfl, hy, hon⟩ := Dp.al_lt hax
    have hJ2 := hJ.pop
    unfold OwnN at hwk
    rw [List.map_append, List.length_append] at hwk
    obtain ⟨g, cap2, rfl, hcap2, hcell, ho4⟩ := hwk.pop
    have ho5 : OwnN w3 w.heap.size (.slice (some ⟨g, 0, none⟩) ws'.length cap2) ws' := ho4
    have hB' : ws'.length + 1 + unm P D.slots.length ≤ D.slots.length := by simpa using hB
    have n1 := hdb.ne hwc (by decide)
    have n2 := hsc.ne hwc (by decide)
    have n3 := hsn.ne hwc (by decide)
    have hcell' : w3.cell? ⟨g, 0 + ws'.length, none⟩ = some (.int .u32 ((y + 1 : Nat) : Int)) := hcell
    repeat (first | refine sp ?_ | (refine is_load ?_; refine ld ?_) | (refine is_store ?_; refine sr ?_) | (refine is_alloc ?_; refine al ?_) | (refine is_box ?_; refine bx ?_) | (refine isl_load ?_; refine ldl ?_) | (refine isl_store ?_; refine srl ?_) | (refine isl_alloc ?_; refine all' ?_) | (refine isl_box ?_; refine bxl ?_) | refine dr Try.follows ?_)
    refine go_as 34 (u' := .int .i64 (ws'.length : Int)) rfl (by congr 1; omega) ?_
    repeat (first | refine sp ?_ | (refine is_load ?_; refine ld ?_) | (refine is_store ?_; refine sr ?_) | (refine is_alloc ?_; refine al ?_) | (refine is_box ?_; refine bx ?_) | (refine isl_load ?_; refine ldl ?_) | (refine isl_store ?_; refine srl ?_) | (refine isl_alloc ?_; refine all' ?_) | (refine isl_box ?_; refine bxl ?_) | refine dr Try.follows ?_)
    refine go_as 40 (u' := .int .i64 (ws'.length : Int)) rfl (by congr 1; omega) ?_
    refine go_p rfl (pr_sl (lo := 0) (hi := ws'.length) (by decide) rfl rfl ⟨_, _, rfl, rfl⟩ (by omega) (by omega)) ?_
    rw [cutA0]
    repeat (first | refine sp ?_ | (refine is_load ?_; refine ld ?_) | (refine is_store ?_; refine sr ?_) | (refine is_alloc ?_; refine al ?_) | (refine is_box ?_; refine bx ?_) | (refine isl_load ?_; refine ldl ?_) | (refine isl_store ?_; refine srl ?_) | (refine isl_alloc ?_; refine all' ?_) | (refine isl_box ?_; refine bxl ?_) | refine dr Try.follows ?_)
    refine go_name (F := fun w4 => VS w w4 D s1 s2 c1 c2 w.heap.size b5 (b5 + 1) (w.heap.size + 1) P (.slice (some ⟨g, 0, none⟩) ws'.length cap2) ws') ⟨by (repeat (first | assumption | (refine At.new' (by (first | omega | (simp; done) | (simp; omega))) _ _) | apply At.alloc | apply At.drewN | apply At.setRow | (apply At.setRow_neF; first | assumption | (apply Ne.symm; assumption) | omega) | (apply At.extF; assumption))), by (repeat (first | assumption | (refine At.new' (by (first | omega | (simp; done) | (simp; omega))) _ _) | apply At.alloc | apply At.drewN | apply At.setRow | (apply At.setRow_neF; first | assumption | (apply Ne.symm; assumption) | omega) | (apply At.extF; assumption))), hwc.setRow _, by (repeat (first | assumption | (refine At.new' (by (first | omega | (simp; done) | (simp; omega))) _ _) | apply At.alloc | apply At.drewN | apply At.setRow | (apply At.setRow_neF; first | assumption | (apply Ne.symm; assumption) | omega) | (apply At.extF; assumption))), OwnN.setRow ho5 hwc (by decide) _, Fr.setRow hx _ (Or.inr l6), l5, l6, ls⟩ ?_
    clear hdb hsc hwc hsn hwk hx hV ho4 ho5 hcell hcell'
    rintro w4 hV
    obtain ⟨hdb, hsc, hwc, hsn, hwk, hx, _, _, _⟩ := id hV
    obtain ⟨b, o, e, hbl, hcell⟩ := (hs'.ext hx).at (m := 11) slt_len (by omega) hy
    subst e
    have hkid := hok.kid _ (List.getElem_mem hy)
    have hkd : D.kd (y + 1) = D.slots[y].kd := by simp only [Dp.kd, List.getElem?_eq_getElem hy]
    rw [hkd] at hJ2
    generalize D.slots[y] = s at *
    repeat (first | refine sp ?_ | (refine is_load ?_; refine ld ?_) | (refine is_store ?_; refine sr ?_) | (refine is_alloc ?_; refine al ?_) | (refine is_box ?_; refine bx ?_) | (refine isl_load ?_; refine ldl ?_) | (refine isl_store ?_; refine srl ?_) | (refine isl_alloc ?_; refine all' ?_) | (refine isl_box ?_; refine bxl ?_) | refine dr Try.follows ?_)
    refine go_as 45 (u' := .int .u32 (y : Int)) rfl (by congr 1; omega) ?_
    repeat (first | refine sp ?_ | (refine is_load ?_; refine ld ?_) | (refine is_store ?_; refine sr ?_) | (refine is_alloc ?_; refine al ?_) | (refine is_box ?_; refine bx ?_) | (refine isl_load ?_; refine ldl ?_) | (refine isl_store ?_; refine srl ?_) | (refine isl_alloc ?_; refine all' ?_) | (refine isl_box ?_; refine bxl ?_) | refine dr Try.follows ?_)
    refine go_load (v := .agg s.cells.toArray) rfl rfl (ld_cells (m := 11) rfl (by decide) fun j u hj => by rw [addr_add]; exact hcell j u hj) ?_
    refine go_call rfl rfl (a_children w4 s) ?_
    rintro _ w5 ⟨rfl, hx5⟩
    have hV5 : VS w w5 D (some ⟨b, o, none⟩) s2 c1 c2 w.heap.size b5 (b5 + 1) (w.heap.size + 1) P (.slice (some ⟨g, 0, none⟩) ws'.length cap2) ws' := ⟨hdb.ext hx5, hsc.ext hx5, hwc.ext hx5, hsn.ext hx5, hwk.ext hx5, hx.trans hx5, l5, l6, ls⟩
    clear hV hdb hsc hwc hsn hwk hx hcell
    repeat (first | refine sp ?_ | (refine is_load ?_; refine ld ?_) | (refine is_store ?_; refine sr ?_) | (refine is_alloc ?_; refine al ?_) | (refine is_box ?_; refine bx ?_) | (refine isl_load ?_; refine ldl ?_) | (refine isl_store ?_; refine srl ?_) | (refine isl_alloc ?_; refine all' ?_) | (refine isl_box ?_; refine bxl ?_) | refine dr Try.follows ?_)
    refine go_loop (G := Nat × (Nat → Bool) × Value × List Nat) [49] (fun ⟨j, _, _, _⟩ => [.int .i64 (j : Int)]) [(2, ptr w.heap.size), (5, ptr b5), (6, ptr (b5 + 1)), (7, .func (.func 84) #[] [ptr w.heap.size, ptr b5, ptr (b5 + 1)].toArray), (48, .agg ⟨[.int .u32 (s.nd.left : Int), .int .u32 (s.nd.right : Int)]⟩)]
      (fun ⟨j, P', v', ws2⟩ w' => j ≤ 2 ∧ VS w w' D (some ⟨b, o, none⟩) s2 c1 c2 w.heap.size b5 (b5 + 1) (w.heap.size + 1) P' v' ws2 ∧ MkJ D roots P' ws2 (s.kd.drop j) ∧ ws2.length + unm P' D.slots.length + 1 ≤ D.slots.length ∧ ws2.length + 2 * unm P' D.slots.length ≤ ws'.length + 2 * unm P D.slots.length) (fun g => 2 - g.1) (0, P, _, ws') rfl ⟨rfl, rfl, rfl, rfl, rfl, trivial⟩ ⟨by omega, hV5, hJ2, by omega, by omega⟩ ?_
    clear hV5 hJ2
    rintro ⟨j, P4, v4, ws4⟩ w4 ⟨hj, hV, hJ4, hB4, hM4⟩
    have hj3 : j = 0 ∨ j = 1 ∨ j = 2 := by omega
    rcases hj3 with rfl | rfl | rfl
    · have hk32 : s.nd.left < 4294967296 := hkid.1
      have hvb := vis_bd (P := P4) (ws := ws4) (i := s.nd.left) (rfl : D.slots.length = _)
      repeat (first | refine sp ?_ | (refine is_load ?_; refine ld ?_) | (refine is_store ?_; refine sr ?_) | (refine is_alloc ?_; refine al ?_) | (refine is_box ?_; refine bx ?_) | (refine isl_load ?_; refine ldl ?_) | (refine isl_store ?_; refine srl ?_) | (refine isl_alloc ?_; refine all' ?_) | (refine isl_box ?_; refine bxl ?_) | refine dr Try.follows ?_)
      refine go_callv rfl rfl rfl (a_visit w w4 lo D _ s2 c1 c2 _ b5 (b5 + 1) _ P4 v4 ws4 s.nd.left hd0 (by omega) hV hk32 (by omega)) ?_
      rintro _ w6 ⟨rfl, v', hV'⟩
      repeat (first | refine sp ?_ | (refine is_load ?_; refine ld ?_) | (refine is_store ?_; refine sr ?_) | (refine is_alloc ?_; refine al ?_) | (refine is_box ?_; refine bx ?_) | (refine isl_load ?_; refine ldl ?_) | (refine isl_store ?_; refine srl ?_) | (refine isl_alloc ?_; refine all' ?_) | (refine isl_box ?_; refine bxl ?_) | refine dr Try.follows ?_)
      exact go_stop (G := Nat × (Nat → Bool) × Value × List Nat) (0 + 1, _, v', _) rfl ⟨rfl, rfl, rfl, rfl, rfl, trivial⟩ ⟨by omega, hV', MkJ.vis (x := s.nd.left) (by simpa [Slt.kd] using hJ4), by omega, by omega⟩ (by show 2 - (0 + 1) < 2 - 0; omega)
    · have hk32 : s.nd.right < 4294967296 := hkid.2
      have hvb := vis_bd (P := P4) (ws := ws4) (i := s.nd.right) (rfl : D.slots.length = _)
      repeat (first | refine sp ?_ | (refine is_load ?_; refine ld ?_) | (refine is_store ?_; refine sr ?_) | (refine is_alloc ?_; refine al ?_) | (refine is_box ?_; refine bx ?_) | (refine isl_load ?_; refine ldl ?_) | (refine isl_store ?_; refine srl ?_) | (refine isl_alloc ?_; refine all' ?_) | (refine isl_box ?_; refine bxl ?_) | refine dr Try.follows ?_)
      refine go_callv rfl rfl rfl (a_visit w w4 lo D _ s2 c1 c2 _ b5 (b5 + 1) _ P4 v4 ws4 s.nd.right hd0 (by omega) hV hk32 (by omega)) ?_
      rintro _ w6 ⟨rfl, v', hV'⟩
      repeat (first | refine sp ?_ | (refine is_load ?_; refine ld ?_) | (refine is_store ?_; refine sr ?_) | (refine is_alloc ?_; refine al ?_) | (refine is_box ?_; refine bx ?_) | (refine isl_load ?_; refine ldl ?_) | (refine isl_store ?_; refine srl ?_) | (refine isl_alloc ?_; refine all' ?_) | (refine isl_box ?_; refine bxl ?_) | refine dr Try.follows ?_)
      exact go_stop (G := Nat × (Nat → Bool) × Value × List Nat) (1 + 1, _, v', _) rfl ⟨rfl, rfl, rfl, rfl, rfl, trivial⟩ ⟨by omega, hV', MkJ.vis (x := s.nd.right) (by simpa [Slt.kd] using hJ4), by omega, by omega⟩ (by show 2 - (1 + 1) < 2 - 1; omega)
    · repeat (first | refine sp ?_ | (refine is_load ?_; refine ld ?_) | (refine is_store ?_; refine sr ?_) | (refine is_alloc ?_; refine al ?_) | (refine is_box ?_; refine bx ?_) | (refine isl_load ?_; refine ldl ?_) | (refine isl_store ?_; refine srl ?_) | (refine isl_alloc ?_; refine all' ?_) | (refine isl_box ?_; refine bxl ?_) | refine dr Try.follows ?_)
      exact go_stop (G := (Nat → Bool) × Value × List Nat) (P4, v4, ws4) rfl ⟨rfl, rfl, rfl, rfl, trivial⟩ ⟨hV, by simpa [Slt.kd] using hJ4, by omega⟩ (by show 2 * unm P4 D.slots.length + ws4.length < 2 * unm P D.slots.length + (ws' ++ [y + 1]).length; rw [List.length_append, List.length_singleton]; omega)

end Go.Proofs.Ytapocbahkeoeoaa
