/-
  The reference arena: releases split; counts of a sound arena; how its rows change.
-/
import Derived.Test.YtapocbahkeoeoaaRg
set_option linter.unusedVariables false
namespace Go.Proofs.Ytapocbahkeoeoaa
open Go.Vc

def one1 (i : Nat) : List Nat := if i = 0 then [] else [i]
theorem kids_one (x : Nd) : kids x = one1 x.left ++ one1 x.right := rfl

theorem RelN.split : ∀ (s : Nat) (A B : AR) (ws1 ws2 : List Nat) (n : Nat), RelN s A (ws1 ++ ws2) B n → ∃ s1 s2 C n1 n2, RelN s1 A ws1 C n1 ∧ RelN s2 C ws2 B n2 ∧ s1 + s2 = s ∧ n1 + n2 = n := by
  intro s
  induction s with
  | zero =>
    intro A B ws1 ws2 n h
    cases ws1 with
    | nil => exact ⟨0, 0, A, 0, n, ⟨rfl, rfl, rfl⟩, h, by omega, by omega⟩
    | cons k ws1 => obtain ⟨h, _⟩ := h; simp at h
  | succ s ih =>
    intro A B ws1 ws2 n h
    cases ws1 with
    | nil => exact ⟨0, s + 1, A, 0, n, ⟨rfl, rfl, rfl⟩, h, by omega, by omega⟩
    | cons k ws1 =>
      obtain ⟨k', ws', e, hu, h⟩ := h
      simp only [List.cons_append, List.cons.injEq] at e
      obtain ⟨rfl, rfl⟩ := e
      rcases h with ⟨hp, h⟩ | ⟨hp, m, rfl, h⟩
      · obtain ⟨s1, s2, C, n1, n2, h1, h2, h3, h4⟩ := ih _ B ws1 ws2 n h
        exact ⟨s1 + 1, s2, C, n1, n2, ⟨k, ws1, rfl, hu, Or.inl ⟨hp, h1⟩⟩, h2, by omega, h4⟩
      · rw [← List.append_assoc] at h
        obtain ⟨s1, s2, C, n1, n2, h1, h2, h3, h4⟩ := ih _ B (kids (A.node k) ++ ws1) ws2 m h
        exact ⟨s1 + 1, s2, C, n1 + 1, n2, ⟨k, ws1, rfl, hu, Or.inr ⟨hp, n1, rfl, h1⟩⟩, h2, by omega, by omega⟩

structure CtOk (A : AR) : Prop where
  u : ∀ i, A.used i = true → 1 ≤ A.cnt i ∧ A.cnt i ≤ 9223372036854775807
  z : ∀ i, 1 ≤ i → A.used i = false → A.cnt i = 0
theorem CtOk.hz {A : AR} (c : CtOk A) (i : Nat) (h1 : 1 ≤ i) : A.countOf i = A.cnt i := by
  unfold AR.countOf
  cases hu : A.used i with
  | true => rfl
  | false => simp [c.z i h1 hu]
theorem CtOk.decv {A : AR} (c : CtOk A) {k : Nat} (hu : A.used k = true) : (A.dec k).cnt k = A.cnt k - 1 := by
  have := c.u k hu
  show upd A.cnt k (w64 (A.cnt k - 1)) k = _
  rw [upd_same, w64_in (by omega)]
theorem CtOk.dec {A : AR} (c : CtOk A) {k : Nat} (hu : A.used k = true) (hp : 0 < (A.dec k).cnt k) : CtOk (A.dec k) := by
  have hd := c.decv hu
  refine ⟨fun i hi => ?_, fun i h1 hi => ?_⟩
  · by_cases e : i = k
    · subst e; have := c.u i hu; omega
    · rw [show (A.dec k).cnt i = A.cnt i from upd_ne _ _ e]; exact c.u i hi
  · have hi : A.used i = false := hi
    have e : i ≠ k := fun e => by rw [e, hu] at hi; cases hi
    rw [show (A.dec k).cnt i = A.cnt i from upd_ne _ _ e]; exact c.z i h1 hi
theorem CtOk.gone {A : AR} (c : CtOk A) {k : Nat} (hu : A.used k = true) (hp : ¬ 0 < (A.dec k).cnt k) : CtOk ((A.dec k).gone k) := by
  have hd := c.decv hu
  have hk := c.u k hu
  refine ⟨fun i hi => ?_, fun i h1 hi => ?_⟩
  · have hi : upd A.used k false i = true := hi
    have e : i ≠ k := fun e => by rw [e, upd_same] at hi; cases hi
    rw [upd_ne _ _ e] at hi
    rw [show ((A.dec k).gone k).cnt i = A.cnt i from upd_ne _ _ e]; exact c.u i hi
  · have hi : upd A.used k false i = false := hi
    by_cases e : i = k
    · subst e
      show (A.dec i).cnt i = 0
      omega
    · rw [upd_ne _ _ e] at hi
      rw [show ((A.dec k).gone k).cnt i = A.cnt i from upd_ne _ _ e]; exact c.z i h1 hi
theorem CtOk.rel : ∀ (s : Nat) (A B : AR) (ws : List Nat) (n : Nat), RelN s A ws B n → CtOk A → CtOk B := by
  intro s
  induction s with
  | zero => rintro A B ws n ⟨_, rfl, _⟩ c; exact c
  | succ s ih =>
    rintro A B ws n ⟨k, ws', rfl, hu, h⟩ c
    rcases h with ⟨hp, h⟩ | ⟨hp, m, rfl, h⟩
    · exact ih _ _ _ _ h (c.dec hu hp)
    · exact ih _ _ _ _ h (c.gone hu hp)
theorem Sound.ct {A : AR} {h : Nat → Nat} (s : Sound A h) (hb : ∀ i, h i ≤ 1000000000) (z : ∀ i, 1 ≤ i → A.used i = false → A.cnt i = 0) : CtOk A := by
  refine ⟨fun i hi => ?_, z⟩
  have := s.cnt i hi
  have := s.pos i hi
  have := edges_le s.wf i
  have := hb i
  omega
theorem make_z {A : AR} {k v : Int} {l r : Nat} (c : ∀ i, 1 ≤ i → A.used i = false → A.cnt i = 0) : ∀ i, 1 ≤ i → (A.make k v l r).used i = false → (A.make k v l r).cnt i = 0 := by
  intro i h1 hi
  by_cases hE : A.makeE k v l r = 0
  · obtain ⟨hl, hr, _, hf⟩ := makeE_zero hE
    rw [make_eq hE] at hi ⊢
    have hi2 : upd A.used A.top true i = false := hi
    have e : i ≠ A.top := fun e => by rw [e, upd_same] at hi2; cases hi2
    rw [upd_ne _ _ e] at hi2
    have el : i ≠ l := fun e => by
      rcases hl with hl | hl
      · omega
      · rw [← e, hi2] at hl; cases hl
    have er : i ≠ r := fun e => by
      rcases hr with hr | hr
      · omega
      · rw [← e, hi2] at hr; cases hr
    show upd (upd (upd A.cnt A.top 1) l _) r _ i = 0
    rw [upd_ne _ _ er, upd_ne _ _ el, upd_ne _ _ e]
    exact c i h1 hi2
  · unfold AR.make at hi ⊢
    rw [if_neg hE] at hi ⊢
    exact c i h1 hi

theorem map_upd {α : Type} (f : Nat → α) {n k : Nat} (x : α) (hk : k < n) : (List.range n).map (fun j => upd f (k + 1) x (j + 1)) = ((List.range n).map fun j => f (j + 1)).set k x := by
  refine List.ext_getElem (by simp) fun i h1 h2 => ?_
  simp only [List.getElem_map, List.getElem_range, List.getElem_set]
  unfold upd
  by_cases e : k = i
  · subst e; simp
  · rw [if_neg (by omega), if_neg e]

theorem RfAt.cong {w : World} {lo r : Nat} {V : RV} {A : AR} (h : RfAt w lo r V A) (c : Nat → Int) (ec : ∀ i, 1 ≤ i → c i = A.cnt i) : RfAt w lo r V { A with cnt := c } := by
  refine ⟨h.hr, h.hn, ?_, h.hs, h.hg, h.ho, h.los, h.ap, h.bl, h.wf.congr rfl rfl rfl rfl rfl⟩
  have e : cellsF (fun j => [Value.int .i64 (c (j + 1))]) A.cap = cellsF (fun j => [Value.int .i64 (A.cnt (j + 1))]) A.cap := cellsF_congr fun j _ => by rw [ec (j + 1) (by omega)]
  show At w V.cb (cellsF (fun j => [Value.int .i64 (c (j + 1))]) A.cap) _
  rw [e]
  exact h.hc

theorem node_set {A : AR} {k : Nat} {x : Nd} (hk : k < A.cap) : splice (cellsF (fun j => (A.node (j + 1)).cells) A.cap) (0 + k * 8) x.cells = cellsF (fun j => ((upd A.node (k + 1) x) (j + 1)).cells) A.cap := by
  rw [Nat.zero_add, cellsF_splice (f := fun j => (A.node (j + 1)).cells) (m := 8) (fun _ => rfl) hk rfl]
  refine cellsF_congr fun j _ => ?_
  unfold upd
  by_cases e : j = k
  · subst e; simp
  · rw [if_neg e, if_neg (by omega)]
/-- A node is written. -/
theorem RfAt.nodeW {w : World} {lo r : Nat} {V : RV} {A : AR} (h : RfAt w lo r V A) {k : Nat} (hk : k < A.cap) (x : Nd) (A' : AR) (e : A' = { A with node := upd A.node (k + 1) x }) : RfAt (w.setRow V.nb (cellsF (fun j => ((upd A.node (k + 1) x) (j + 1)).cells) A.cap).toArray) lo r V A' := by
  subst e
  have hs := h.sep
  have f : Fr (fun b => b = V.nb) w (w.setRow V.nb (cellsF (fun j => ((upd A.node (k + 1) x) (j + 1)).cells) A.cap).toArray) := (Fr.refl _ _).setRow _ (Or.inl rfl)
  exact ⟨h.hr.fr f hs.1, h.hn.setRow _, h.hc.fr f (fun e => hs.2.2 e.symm), Rd.frB h.hs f fun b hb e => (h.ap b (Or.inl hb)).2.1 e, Rd.frB h.hg f fun b hb e => (h.ap b (Or.inr (Or.inl hb))).2.1 e, Rd.frB h.ho f fun b hb e => (h.ap b (Or.inr (Or.inr hb))).2.1 e, h.los, h.ap, fun b hb => Nat.lt_of_lt_of_le (h.bl b hb) f.size, h.wf.congr rfl rfl rfl rfl rfl⟩

theorem gens_upd (A A' : AR) {k g : Nat} (hk : k < A.cap) (e1 : A'.cap = A.cap) (e2 : A'.gen = upd A.gen (k + 1) g) : A'.gens = A.gens.set k g := by
  unfold AR.gens; rw [e1, e2]; exact map_upd A.gen g hk
theorem ons_upd (A A' : AR) {k : Nat} {g : Bool} (hk : k < A.cap) (e1 : A'.cap = A.cap) (e2 : A'.used = upd A.used (k + 1) g) : A'.ons = A.ons.set k g := by
  unfold AR.ons; rw [e1, e2]; exact map_upd A.used g hk

theorem u32_len (n : Nat) : (u32c n).length = 1 := rfl
theorem boolC_len (b : Bool) : (boolC b).length = 1 := rfl
theorem u32_map (xs : List Nat) : xs.flatMap u32c = xs.map (fun i : Nat => Value.int .u32 (i : Int)) := flatMap_one _ _
theorem bool_map (xs : List Bool) : xs.flatMap boolC = xs.map Value.bool := flatMap_one _ _
theorem u32_ones (xs : List Nat) : ∀ u ∈ xs.flatMap u32c, u.oneCell' = true := by
  intro u hu; rw [u32_map] at hu; obtain ⟨_, _, rfl⟩ := List.mem_map.1 hu; rfl
theorem bool_ones (xs : List Bool) : ∀ u ∈ xs.flatMap boolC, u.oneCell' = true := by
  intro u hu; rw [bool_map] at hu; obtain ⟨_, _, rfl⟩ := List.mem_map.1 hu; rfl

/-- What the next state of the reference allocator holds: its three slices, each its own or new. -/
structure NextS (w w' : World) (lo : Nat) (V : RV) (A' : AR) (sv gv ov : Value) : Prop where
  s : Rd w' lo sv u32c A'.rel
  g : Rd w' lo gv u32c A'.gens
  o : Rd w' lo ov boolC A'.ons
  bl : ∀ b, (sv.ownBlock = some b ∨ gv.ownBlock = some b ∨ ov.ownBlock = some b) → (V.sv.ownBlock = some b ∨ V.gv.ownBlock = some b ∨ V.ov.ownBlock = some b) ∨ w.heap.size ≤ b
  lt : ∀ b, (sv.ownBlock = some b ∨ gv.ownBlock = some b ∨ ov.ownBlock = some b) → b < w'.heap.size
  x : Ext w w'

end Go.Proofs.Ytapocbahkeoeoaa
