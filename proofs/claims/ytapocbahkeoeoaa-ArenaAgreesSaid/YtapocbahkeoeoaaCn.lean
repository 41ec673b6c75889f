/-
  The reference's audit of a dump: the slots that are reachable.
-/
import Derived.Test.YtapocbahkeoeoaaCm
set_option linter.unusedVariables false
namespace Go.Proofs.Ytapocbahkeoeoaa
open Go.Vc

def Dp.kd (D : Dp) : Nat → List Nat
  | 0 => []
  | j + 1 => match D.slots[j]? with
    | some s => s.kd
    | none => []

/-- An allocated slot that is reached from the roots. -/
inductive Dp.Reach (D : Dp) (roots : List Nat) : Nat → Prop
  | root {i : Nat} : i ∈ roots → D.al i = true → Reach D roots i
  | kid {k c : Nat} : Reach D roots k → c ∈ D.kd k → D.al c = true → Reach D roots c

theorem Dp.Reach.al {D : Dp} {roots : List Nat} {i : Nat} (h : D.Reach roots i) : D.al i = true := by cases h <;> assumption

/-- The marks are the slots that are reached. -/
def Marks (D : Dp) (roots : List Nat) (P : Nat → Bool) : Prop := ∀ j, j < D.slots.length → (P j = true ↔ D.Reach roots (j + 1))

/-- On the way: what is marked, and what is still to be looked at. -/
structure MkI (D : Dp) (roots : List Nat) (P : Nat → Bool) (ws : List Nat) : Prop where
  s1 : ∀ j, j < D.slots.length → P j = true → D.Reach roots (j + 1)
  s2 : ∀ x ∈ ws, D.al x = true → D.Reach roots x
  s3 : ∀ r ∈ roots, D.al r = true → P (r - 1) = true ∨ r ∈ ws
  s4 : ∀ j, j < D.slots.length → P j = true → ∀ c ∈ D.kd (j + 1), D.al c = true → P (c - 1) = true ∨ c ∈ ws

theorem MkI.init (D : Dp) (roots : List Nat) : MkI D roots (fun _ => false) roots :=
  ⟨(fun _ _ h => by cases h), fun x hx ha => .root hx ha, fun r hr _ => Or.inr hr, (fun _ _ h => by cases h)⟩
theorem MkI.fin {D : Dp} {roots : List Nat} {P : Nat → Bool} (h : MkI D roots P []) : Marks D roots P := by
  have key : ∀ i, D.Reach roots i → P (i - 1) = true := by
    intro i hr
    induction hr with
    | root hm ha =>
      rcases h.s3 _ hm ha with h | h
      · exact h
      · cases h
    | kid hk hc ha ih =>
      obtain ⟨j, rfl, hj, _⟩ := Dp.al_lt hk.al
      rcases h.s4 j hj (by simpa using ih) _ hc ha with h | h
      · exact h
      · cases h
  intro j hj
  exact ⟨h.s1 j hj, fun hr => by simpa using key _ hr⟩
/-- A slot that is not allocated, or marked already, is passed over. -/
theorem MkI.skip {D : Dp} {roots : List Nat} {P : Nat → Bool} {ws : List Nat} {x : Nat} (h : MkI D roots P (ws ++ [x])) (hx : D.al x = true → P (x - 1) = true) : MkI D roots P ws := by
  refine ⟨h.s1, fun y hy => h.s2 y (by simp [hy]), fun r hr ha => ?_, fun j hj hp c hc ha => ?_⟩
  · rcases h.s3 r hr ha with h1 | h1
    · exact Or.inl h1
    · rcases List.mem_append.1 h1 with h1 | h1
      · exact Or.inr h1
      · simp at h1; subst h1; exact Or.inl (hx ha)
  · rcases h.s4 j hj hp c hc ha with h1 | h1
    · exact Or.inl h1
    · rcases List.mem_append.1 h1 with h1 | h1
      · exact Or.inr h1
      · simp at h1; subst h1; exact Or.inl (hx ha)
/-- A slot is marked; its children are looked at later. -/
theorem MkI.mark {D : Dp} {roots : List Nat} {P : Nat → Bool} {ws : List Nat} {y : Nat} (h : MkI D roots P (ws ++ [y + 1])) (ha : D.al (y + 1) = true) {s : Slt} (hs : D.slots[y]? = some s) : MkI D roots (upd P y true) (ws ++ s.kd) := by
  have hr := h.s2 (y + 1) (by simp) ha
  have hkd : D.kd (y + 1) = s.kd := by simp only [Dp.kd, hs]
  have up : ∀ c, P (c - 1) = true ∨ c ∈ ws ++ [y + 1] → D.al c = true → upd P y true (c - 1) = true ∨ c ∈ ws ++ s.kd := by
    intro c hc hac
    obtain ⟨j, rfl, hj, _⟩ := Dp.al_lt hac
    rcases hc with hc | hc
    · left; unfold upd; split
      · rfl
      · exact hc
    · rcases List.mem_append.1 hc with hc | hc
      · exact Or.inr (by simp [hc])
      · simp at hc; subst hc; left; simp [upd]
  refine ⟨fun j hj hp => ?_, fun x hx hax => ?_, fun r hr1 har => up r (h.s3 r hr1 har) har, fun j hj hp c hc hac => ?_⟩
  · by_cases e : j = y
    · subst e; exact hr
    · rw [upd_ne _ _ e] at hp; exact h.s1 j hj hp
  · rcases List.mem_append.1 hx with hx | hx
    · exact h.s2 x (by simp [hx]) hax
    · exact .kid hr (by rw [hkd]; exact hx) hax
  · by_cases e : j = y
    · subst e; rw [hkd] at hc; exact Or.inr (by simp [hc])
    · rw [upd_ne _ _ e] at hp; exact up c (h.s4 j hj hp c hc hac) hac

/-- How many slots are not marked. -/
def unm (P : Nat → Bool) (n : Nat) : Nat := sumTo (fun j => if P j = true then 0 else 1) n
theorem unm_le (P : Nat → Bool) (n : Nat) : unm P n ≤ n := by
  have := sumTo_le (f := fun j => if P j = true then 0 else 1) (m := 1) (fun i => by split <;> omega) n
  unfold unm; omega
theorem unm_mark {P : Nat → Bool} {n y : Nat} (hy : y < n) (hp : P y = false) : unm (upd P y true) n + 1 = unm P n := by
  have := sumTo_one (f := fun j => if upd P y true j = true then 0 else 1) (g := fun j => if P j = true then 0 else 1) (k := y) (n := n) hy (fun i _ hne => by rw [upd_ne _ _ hne])
  simp only [hp, upd_same] at this
  unfold unm
  simpa using this

set_option maxHeartbeats 4000000 in
theorem c_marks (w : World) (lo hi : Nat) (v rv : Value) (D : Dp) (roots : List Nat) (hd : DpAt w lo v D) (hok : D.Ok) (hr : RdU w hi rv u32c roots) (hh : hi ≤ w.heap.size) (hrl : roots.length ≤ 1000000) (hrb : ∀ x ∈ roots, x < 4294967296) :
    Calls Try.prog 66 [v, rv].toArray w (Ret fun r w' => ∃ P, BoolsAt w' w.heap.size r P D.slots.length ∧ Marks D roots P ∧ Ext w w') := by
  have hln := hok.len
  have hd0 := hd
  obtain ⟨sv, fv, rfl, hs, hf⟩ := hd
  have hs' := hs.up
  obtain ⟨s1, c1, rfl, h1, _, _⟩ := hs
  obtain ⟨s2, c2, rfl, h2, _, _⟩ := hf
  obtain ⟨sa, cap, rfl, hlc, hrc, _⟩ := hr
  generalize hn : D.slots.length = n at *
  refine calls_go Try.func66 rfl Try.ntmps66 (Nat.le_of_ble_eq_true rfl) ?_
  repeat (first | refine sp ?_ | (refine is_load ?_; refine ld ?_) | (refine is_store ?_; refine sr ?_) | (refine is_alloc ?_; refine al ?_) | (refine is_box ?_; refine bx ?_) | (refine isl_load ?_; refine ldl ?_) | (refine isl_store ?_; refine srl ?_) | (refine isl_alloc ?_; refine all' ?_) | (refine isl_box ?_; refine bxl ?_) | refine dr Try.follows ?_)
  refine go_makeF (c := n) rfl rfl rfl rfl rfl (by omega) (by unfold maxLen; omega) rfl ?_
  refine go_name (F := fun w1 => At w1 w.heap.size [.slice s1 n c1, .slice s2 D.free.length c2] 36 ∧ At w1 (w.heap.size + 1) (cellsF (fun _ => [.bool false]) n) 4 ∧ Ext w w1) ⟨by (repeat (first | assumption | (refine At.new' (by (first | omega | (simp; done) | (simp; omega))) _ _) | apply At.alloc | apply At.drewN | apply At.setRow | (apply At.setRow_neF; first | assumption | (apply Ne.symm; assumption) | omega) | (apply At.extF; assumption))), by (repeat (first | assumption | (refine At.new' (by (first | omega | (simp; done) | (simp; omega))) _ _) | apply At.alloc | apply At.drewN | apply At.setRow | (apply At.setRow_neF; first | assumption | (apply Ne.symm; assumption) | omega) | (apply At.extF; assumption))), by (repeat (first | exact Fr.refl _ _ | assumption | apply Fr.drewN | apply Fr.alloc | (apply Fr.transF; assumption) | (refine Fr.setRow ?_ _ (by first | exact Or.inr (by (first | omega | (simp; done) | (simp; omega))) | (exact Or.inl (by first | assumption | (simp; done)))))))⟩ ?_
  rintro w1 ⟨hdb, hat, hx1⟩
  have hfl : roots.flatMap u32c = roots.map fun (i : Nat) => Value.int .u32 (i : Int) := flatMap_one _ roots
  rw [hfl] at hrc
  repeat (first | refine sp ?_ | (refine is_load ?_; refine ld ?_) | (refine is_store ?_; refine sr ?_) | (refine is_alloc ?_; refine al ?_) | (refine is_box ?_; refine bx ?_) | (refine isl_load ?_; refine ldl ?_) | (refine isl_store ?_; refine srl ?_) | (refine isl_alloc ?_; refine all' ?_) | (refine isl_box ?_; refine bxl ?_) | refine dr Try.follows ?_)
  refine go_appendG (r := roots.length) (lo := w.heap.size + 2) (q := 0) (xs := []) (by decide) rfl rfl rfl (Own.nil _ _ _ _) (hrc.fr hx1 (fun _ _ _ => id)) (by simp) (by intro u hu; simp at hu; obtain ⟨_, _, rfl⟩ := hu; rfl) (by simp [maxLen]; omega) (by omega) (by have := hat.lt; omega) ?_
  intro v2 w2 ho2 hg2 _
  have hx2 : Ext w1 w2 := ext_grown (Fr.refl _ _) (by have := hat.lt; omega) (Own.nil w1 w1.heap.size 27 1) hg2
  refine go_as 5 (u' := .slice (some ⟨w.heap.size + 1, 0, none⟩) n n) rfl (by simp) ?_
  have hl2 := hat.lt
  replace hdb := hdb.ext hx2
  replace hat := hat.ext hx2
  have ho0 : OwnN w2 (w.heap.size + 2) v2 roots := by unfold OwnN; simpa using ho2
  have hx2' := hx1.trans hx2
  repeat (first | refine sp ?_ | (refine is_load ?_; refine ld ?_) | (refine is_store ?_; refine sr ?_) | (refine is_alloc ?_; refine al ?_) | (refine is_box ?_; refine bx ?_) | (refine isl_load ?_; refine ldl ?_) | (refine isl_store ?_; refine srl ?_) | (refine isl_alloc ?_; refine all' ?_) | (refine isl_box ?_; refine bxl ?_) | refine dr Try.follows ?_)
  refine go_loop (G := (Nat → Bool) × List Nat × Value) [6] (fun ⟨_, _, v⟩ => [v]) [(2, ptr w.heap.size), (5, .slice (some ⟨w.heap.size + 1, 0, none⟩) n n)]
    (fun ⟨P, ws, v⟩ w' => At w' w.heap.size [.slice s1 n c1, .slice s2 D.free.length c2] 36 ∧ At w' (w.heap.size + 1) (cellsF (fun j => [.bool (P j)]) n) 4 ∧ OwnN w' (w.heap.size + 2) v ws ∧ MkI D roots P ws ∧ (∀ x ∈ ws, x < 4294967296) ∧ ws.length + 2 * unm P n ≤ roots.length + 2 * n ∧ Ext w w')
    (fun g => 3 * unm g.1 n + g.2.1.length) ((fun _ => false), roots, v2) rfl ⟨rfl, rfl, trivial⟩ ⟨hdb, hat, ho0, MkI.init D roots, hrb, by have := unm_le (fun _ => false) n; omega, hx2'⟩ ?_
  clear hdb hat ho0 ho2 hx2' hx2 hg2
  rintro ⟨P, ws, v⟩ w3 ⟨hdb, hat, ho3, hI, hwb, hwl, hx3⟩
  have hdl := hdb.lt
  have hal := hat.lt
  rcases List.eq_nil_or_concat ws with rfl | ⟨ws', x, rfl⟩
  · obtain ⟨sv, cv, rfl, _, _⟩ := ho3.slice
    repeat (first | refine sp ?_ | (refine is_load ?_; refine ld ?_) | (refine is_store ?_; refine sr ?_) | (refine is_alloc ?_; refine al ?_) | (refine is_box ?_; refine bx ?_) | (refine isl_load ?_; refine ldl ?_) | (refine isl_store ?_; refine srl ?_) | (refine isl_alloc ?_; refine all' ?_) | (refine isl_box ?_; refine bxl ?_) | refine dr Try.follows ?_)
    exact go_ret1 rfl rfl ⟨_, rfl, P, ⟨_, rfl, by omega, hat⟩, hI.fin, hx3⟩
  · have hxb : x < 4294967296 := hwb x (by simp)
    have hwb' : ∀ y ∈ ws', y < 4294967296 := fun y hy => hwb y (by simp [hy])
    rw [List.concat_eq_append] at hI ho3 hwl
    unfold OwnN at ho3
    rw [List.map_append, List.length_append] at ho3
    obtain ⟨g, cap2, rfl, hcap2, hcell, ho4⟩ := ho3.pop
    have hwl' : ws'.length + 1 + 2 * unm P n ≤ roots.length + 2 * n := by simpa using hwl
    have hgl : w.heap.size + 2 ≤ g := (World.ownsRow.lt ho4 g rfl).1
    have hgs : g < w3.heap.size := (World.ownsRow.lt ho4 g rfl).2
    generalize hnl : ws'.length = nl at *
    have ho5 : OwnN w3 (w.heap.size + 2) (.slice (some ⟨g, 0, none⟩) nl cap2) ws' := by unfold OwnN; rw [hnl]; exact ho4
    repeat (first | refine sp ?_ | (refine is_load ?_; refine ld ?_) | (refine is_store ?_; refine sr ?_) | (refine is_alloc ?_; refine al ?_) | (refine is_box ?_; refine bx ?_) | (refine isl_load ?_; refine ldl ?_) | (refine isl_store ?_; refine srl ?_) | (refine isl_alloc ?_; refine all' ?_) | (refine isl_box ?_; refine bxl ?_) | refine dr Try.follows ?_)
    refine go_as 21 (u' := .int .i64 (nl : Int)) rfl (by congr 1; first | omega | (simp; done) | (simp; omega)) ?_
    repeat (first | refine sp ?_ | (refine is_load ?_; refine ld ?_) | (refine is_store ?_; refine sr ?_) | (refine is_alloc ?_; refine al ?_) | (refine is_box ?_; refine bx ?_) | (refine isl_load ?_; refine ldl ?_) | (refine isl_store ?_; refine srl ?_) | (refine isl_alloc ?_; refine all' ?_) | (refine isl_box ?_; refine bxl ?_) | refine dr Try.follows ?_)
    refine go_as 27 (u' := .int .i64 (nl : Int)) rfl (by congr 1; first | omega | (simp; done) | (simp; omega)) ?_
    refine go_p rfl (pr_sl (lo := 0) (hi := nl) (by decide) rfl rfl ⟨_, _, rfl, rfl⟩ (by omega) (by omega)) ?_
    rw [cutA0]
    repeat (first | refine sp ?_ | (refine is_load ?_; refine ld ?_) | (refine is_store ?_; refine sr ?_) | (refine is_alloc ?_; refine al ?_) | (refine is_box ?_; refine bx ?_) | (refine isl_load ?_; refine ldl ?_) | (refine isl_store ?_; refine srl ?_) | (refine isl_alloc ?_; refine all' ?_) | (refine isl_box ?_; refine bxl ?_) | refine dr Try.follows ?_)
    refine go_call rfl rfl (c_Allocated w3 lo _ D x (hd0.ext hx3) (by omega) hxb) ?_
    rintro _ w4 ⟨rfl, hx4⟩
    replace hdb := hdb.ext hx4
    replace hat := hat.ext hx4
    replace ho5 := ho5.ext hx4
    have hs4 := hx4.size
    have hx4' := hx3.trans hx4
    cases hal : D.al x with
    | false =>
      repeat (first | refine sp ?_ | (refine is_load ?_; refine ld ?_) | (refine is_store ?_; refine sr ?_) | (refine is_alloc ?_; refine al ?_) | (refine is_box ?_; refine bx ?_) | (refine isl_load ?_; refine ldl ?_) | (refine isl_store ?_; refine srl ?_) | (refine isl_alloc ?_; refine all' ?_) | (refine isl_box ?_; refine bxl ?_) | refine dr Try.follows ?_)
      exact go_stop (G := (Nat → Bool) × List Nat × Value) (P, ws', .slice (some ⟨g, 0, none⟩) nl cap2) rfl ⟨rfl, rfl, trivial⟩ ⟨hdb, hat, ho5, hI.skip (fun h => by rw [hal] at h; cases h), hwb', by omega, hx4'⟩ (by show 3 * unm P n + ws'.length < 3 * unm P n + (ws'.concat x).length; simp)
    | true =>
      obtain ⟨y, rfl, hy, hon⟩ := Dp.al_lt hal
      rw [hn] at hy
      have hcl : (cellsF (fun j => [Value.bool (P j)]) n)[0 + y]? = some (.bool (P y)) := by
        rw [Nat.zero_add]; exact one_get (f := fun j => Value.bool (P j)) hy
      repeat (first | refine sp ?_ | (refine is_load ?_; refine ld ?_) | (refine is_store ?_; refine sr ?_) | (refine is_alloc ?_; refine al ?_) | (refine is_box ?_; refine bx ?_) | (refine isl_load ?_; refine ldl ?_) | (refine isl_store ?_; refine srl ?_) | (refine isl_alloc ?_; refine all' ?_) | (refine isl_box ?_; refine bxl ?_) | refine dr Try.follows ?_)
      refine go_as 36 (u' := .int .u32 (y : Int)) rfl (by congr 1; omega) ?_
      repeat (first | refine sp ?_ | (refine is_load ?_; refine ld ?_) | (refine is_store ?_; refine sr ?_) | (refine is_alloc ?_; refine al ?_) | (refine is_box ?_; refine bx ?_) | (refine isl_load ?_; refine ldl ?_) | (refine isl_store ?_; refine srl ?_) | (refine isl_alloc ?_; refine all' ?_) | (refine isl_box ?_; refine bxl ?_) | refine dr Try.follows ?_)
      cases hp : P y with
      | true =>
        repeat (first | refine sp ?_ | (refine is_load ?_; refine ld ?_) | (refine is_store ?_; refine sr ?_) | (refine is_alloc ?_; refine al ?_) | (refine is_box ?_; refine bx ?_) | (refine isl_load ?_; refine ldl ?_) | (refine isl_store ?_; refine srl ?_) | (refine isl_alloc ?_; refine all' ?_) | (refine isl_box ?_; refine bxl ?_) | refine dr Try.follows ?_)
        exact go_stop (G := (Nat → Bool) × List Nat × Value) (P, ws', .slice (some ⟨g, 0, none⟩) nl cap2) rfl ⟨rfl, rfl, trivial⟩ ⟨hdb, hat, ho5, hI.skip (fun _ => by simpa using hp), hwb', by omega, hx4'⟩ (by show 3 * unm P n + ws'.length < 3 * unm P n + (ws'.concat (y + 1)).length; simp)
      | false =>
        have hum := unm_mark hy hp
        have es : (cellsF (fun j => [Value.bool (P j)]) n).set (0 + y) (.bool true) = cellsF (fun j => [Value.bool (upd P y true j)]) n := by
          rw [Nat.zero_add]; exact one_set' Value.bool P hy
        repeat (first | refine sp ?_ | (refine is_load ?_; refine ld ?_) | (refine is_alloc ?_; refine al ?_) | (refine is_box ?_; refine bx ?_) | (refine isl_load ?_; refine ldl ?_) | (refine isl_alloc ?_; refine all' ?_) | (refine isl_box ?_; refine bxl ?_) | refine dr Try.follows ?_)
        refine go_as 42 (u' := .int .u32 (y : Int)) rfl (by congr 1; omega) ?_
        repeat (first | refine sp ?_ | (refine is_load ?_; refine ld ?_) | (refine is_alloc ?_; refine al ?_) | (refine is_box ?_; refine bx ?_) | (refine isl_load ?_; refine ldl ?_) | (refine isl_alloc ?_; refine all' ?_) | (refine isl_box ?_; refine bxl ?_) | refine dr Try.follows ?_)
        refine go_store rfl rfl (st_at hat (by simp; omega) rfl) ?_
        rw [es]
        have hy' : y < D.slots.length := by omega
        obtain ⟨b, o, e, hbl, hcell2⟩ := (hs'.ext hx4').at (m := 11) slt_len (by omega) hy'
        subst e
        have hI2 := hI.mark hal (List.getElem?_eq_getElem hy')
        have hkid := hok.kid _ (List.getElem_mem hy')
        generalize D.slots[y] = s at *
        have ho6 : OwnN (w4.setRow (w.heap.size + 1) (cellsF (fun j => [Value.bool (upd P y true j)]) n).toArray) (w.heap.size + 2) (.slice (some ⟨g, 0, none⟩) nl cap2) ws' := OwnN.setRow ho5 hat (by decide) _
        refine go_name (F := fun w5 => At w5 w.heap.size [.slice (some ⟨b, o, none⟩) n c1, .slice s2 D.free.length c2] 36 ∧ At w5 (w.heap.size + 1) (cellsF (fun j => [.bool (upd P y true j)]) n) 4 ∧ OwnN w5 (w.heap.size + 2) (.slice (some ⟨g, 0, none⟩) nl cap2) ws' ∧ (∀ j u, s.cells[j]? = some u → w5.cell? ⟨b, o + y * 11 + j, none⟩ = some u) ∧ Ext w w5 ∧ w4.heap.size ≤ w5.heap.size) ⟨by (repeat (first | assumption | (refine At.new' (by (first | omega | (simp; done) | (simp; omega))) _ _) | apply At.alloc | apply At.drewN | apply At.setRow | (apply At.setRow_neF; first | assumption | (apply Ne.symm; assumption) | omega) | (apply At.extF; assumption))), hat.setRow _, ho6, fun j u hj => Fr.cell (S := fun b => b = w.heap.size + 1) (w := w4) (by (repeat (first | exact Fr.refl _ _ | assumption | apply Fr.drewN | apply Fr.alloc | (apply Fr.transF; assumption) | (refine Fr.setRow ?_ _ (by first | exact Or.inr (by (first | omega | (simp; done) | (simp; omega))) | (exact Or.inl (by first | assumption | (simp; done)))))))) (hcell2 j u hj) (by show ¬ b = w.heap.size + 1; omega), Fr.setRow hx4' _ (Or.inr (by omega)), by simp⟩ ?_
        clear hdb hat ho6 hcell2 ho5
        rintro w5 ⟨hdb, hat, ho6, hcell2, hx5, hl5⟩
        repeat (first | refine sp ?_ | (refine is_load ?_; refine ld ?_) | (refine is_store ?_; refine sr ?_) | (refine is_alloc ?_; refine al ?_) | (refine is_box ?_; refine bx ?_) | (refine isl_load ?_; refine ldl ?_) | (refine isl_store ?_; refine srl ?_) | (refine isl_alloc ?_; refine all' ?_) | (refine isl_box ?_; refine bxl ?_) | refine dr Try.follows ?_)
        refine go_as 47 (u' := .int .u32 (y : Int)) rfl (by congr 1; omega) ?_
        repeat (first | refine sp ?_ | (refine is_load ?_; refine ld ?_) | (refine is_store ?_; refine sr ?_) | (refine is_alloc ?_; refine al ?_) | (refine is_box ?_; refine bx ?_) | (refine isl_load ?_; refine ldl ?_) | (refine isl_store ?_; refine srl ?_) | (refine isl_alloc ?_; refine all' ?_) | (refine isl_box ?_; refine bxl ?_) | refine dr Try.follows ?_)
        refine go_load (v := .agg s.cells.toArray) rfl rfl (ld_cells (m := 11) rfl (by decide) fun j u hj => by rw [addr_add]; exact hcell2 j u hj) ?_
        refine go_call rfl rfl (c_kids w5 s) ?_
        rintro _ w6 ⟨rfl, hx6⟩
        have hs6 := hx6.size
        replace hdb := hdb.ext hx6
        replace hat := hat.ext hx6
        replace ho6 := ho6.ext hx6
        repeat (first | refine sp ?_ | (refine is_load ?_; refine ld ?_) | (refine is_store ?_; refine sr ?_) | (refine is_alloc ?_; refine al ?_) | (refine is_box ?_; refine bx ?_) | (refine isl_load ?_; refine ldl ?_) | (refine isl_store ?_; refine srl ?_) | (refine isl_alloc ?_; refine all' ?_) | (refine isl_box ?_; refine bxl ?_) | refine dr Try.follows ?_)
        refine go_name (F := fun w7 => At w7 w6.heap.size [.int .u32 (s.nd.left : Int), .int .u32 (s.nd.right : Int)] 98 ∧ At w7 w.heap.size [.slice (some ⟨b, o, none⟩) n c1, .slice s2 D.free.length c2] 36 ∧ At w7 (w.heap.size + 1) (cellsF (fun j => [.bool (upd P y true j)]) n) 4 ∧ OwnN w7 (w.heap.size + 2) (.slice (some ⟨g, 0, none⟩) nl cap2) ws' ∧ Ext w w7) ⟨by (repeat (first | assumption | (refine At.new' (by (first | omega | (simp; done) | (simp; omega))) _ _) | apply At.alloc | apply At.drewN | apply At.setRow | (apply At.setRow_neF; first | assumption | (apply Ne.symm; assumption) | omega) | (apply At.extF; assumption))), by (repeat (first | assumption | (refine At.new' (by (first | omega | (simp; done) | (simp; omega))) _ _) | apply At.alloc | apply At.drewN | apply At.setRow | (apply At.setRow_neF; first | assumption | (apply Ne.symm; assumption) | omega) | (apply At.extF; assumption))), by (repeat (first | assumption | (refine At.new' (by (first | omega | (simp; done) | (simp; omega))) _ _) | apply At.alloc | apply At.drewN | apply At.setRow | (apply At.setRow_neF; first | assumption | (apply Ne.symm; assumption) | omega) | (apply At.extF; assumption))), Own.ext ho6 (by (repeat (first | exact Fr.refl _ _ | assumption | apply Fr.drewN | apply Fr.alloc | (apply Fr.transF; assumption) | (refine Fr.setRow ?_ _ (by first | exact Or.inr (by (first | omega | (simp; done) | (simp; omega))) | (exact Or.inl (by first | assumption | (simp; done)))))))), (hx5.trans hx6).trans (by (repeat (first | exact Fr.refl _ _ | assumption | apply Fr.drewN | apply Fr.alloc | (apply Fr.transF; assumption) | (refine Fr.setRow ?_ _ (by first | exact Or.inr (by (first | omega | (simp; done) | (simp; omega))) | (exact Or.inl (by first | assumption | (simp; done))))))))⟩ ?_
        clear hdb hat ho6
        rintro w7 ⟨hcb, hdb, hat, ho7, hx7⟩
        refine go_p rfl (pr_idx2 (j := 0) rfl rfl rfl (by omega)) ?_
        repeat (first | refine sp ?_ | (refine is_load ?_; refine ld ?_) | (refine is_store ?_; refine sr ?_) | (refine is_alloc ?_; refine al ?_) | (refine is_box ?_; refine bx ?_) | (refine isl_load ?_; refine ldl ?_) | (refine isl_store ?_; refine srl ?_) | (refine isl_alloc ?_; refine all' ?_) | (refine isl_box ?_; refine bxl ?_) | refine dr Try.follows ?_)
        refine go_p rfl (pr_idx2 (j := 1) rfl rfl rfl (by omega)) ?_
        repeat (first | refine sp ?_ | (refine is_load ?_; refine ld ?_) | (refine is_store ?_; refine sr ?_) | (refine is_alloc ?_; refine al ?_) | (refine is_box ?_; refine bx ?_) | (refine isl_load ?_; refine ldl ?_) | (refine isl_store ?_; refine srl ?_) | (refine isl_alloc ?_; refine all' ?_) | (refine isl_box ?_; refine bxl ?_) | refine dr Try.follows ?_)
        refine go_litG (l := [.int .u32 (s.nd.left : Int), .int .u32 (s.nd.right : Int)]) rfl rfl (by decide) (by decide) rfl ?_
        have hx8 : Ext w7 (w7.alloc (.cells [Value.int .u32 (s.nd.left : Int), .int .u32 (s.nd.right : Int)].toArray 27)) := by (repeat (first | exact Fr.refl _ _ | assumption | apply Fr.drewN | apply Fr.alloc | (apply Fr.transF; assumption) | (refine Fr.setRow ?_ _ (by first | exact Or.inr (by (first | omega | (simp; done) | (simp; omega))) | (exact Or.inl (by first | assumption | (simp; done)))))))
        have hlt8 := At.new w7 [Value.int .u32 (s.nd.left : Int), .int .u32 (s.nd.right : Int)] 27
        refine go_appendG (r := 2) (lo := w.heap.size + 2) (q := nl) (sa := some ⟨w7.heap.size, 0, none⟩) (news := [.int .u32 (s.nd.left : Int), .int .u32 (s.nd.right : Int)]) (by decide) rfl rfl rfl (by have := ho7.ext hx8; unfold OwnN at this; rw [hnl] at this; exact this) (by
          intro j u hj
          exact ⟨_, _, rfl, by have := hlt8.cell (i := j) (v := u) hj; simpa using this⟩) rfl (by intro u hu; simp at hu; rcases hu with rfl | rfl <;> rfl) (by simp [maxLen]; omega) (by omega) (by have := hat.lt; have := hx8.size; omega) ?_
        intro v9 w9 ho9 hg9 _
        have hu9 : (Value.slice (some ⟨g, 0, none⟩) nl cap2).ownBlock = some g := rfl
        have hx9 : Ext w w9 := ext_grown (lo := w.heap.size + 2) (hx7.trans hx8) (by omega) (by have := ho7.ext hx8; unfold OwnN at this; exact this) hg9
        have hdb9 := (hdb.ext hx8).fr (Fr.of_grown hg9) (by show ¬ (some g : Option Nat) = some _; simp; omega)
        have hat9 := (hat.ext hx8).fr (Fr.of_grown hg9) (by show ¬ (some g : Option Nat) = some _; simp; omega)
        have ho9' : OwnN w9 (w.heap.size + 2) v9 (ws' ++ s.kd) := by unfold OwnN; rw [List.map_append, List.length_append, hnl]; exact ho9
        repeat (first | refine sp ?_ | (refine is_load ?_; refine ld ?_) | (refine is_store ?_; refine sr ?_) | (refine is_alloc ?_; refine al ?_) | (refine is_box ?_; refine bx ?_) | (refine isl_load ?_; refine ldl ?_) | (refine isl_store ?_; refine srl ?_) | (refine isl_alloc ?_; refine all' ?_) | (refine isl_box ?_; refine bxl ?_) | refine dr Try.follows ?_)
        exact go_stop (G := (Nat → Bool) × List Nat × Value) (upd P y true, ws' ++ s.kd, v9) rfl ⟨rfl, rfl, trivial⟩ ⟨hdb9, hat9, ho9', hI2, (fun z hz => by
          rcases List.mem_append.1 hz with hz | hz
          · exact hwb' z hz
          · simp [Slt.kd] at hz; rcases hz with rfl | rfl
            · exact hkid.1
            · exact hkid.2), by rw [List.length_append, hnl]; simp only [Slt.kd, List.length_cons, List.length_nil]; omega, hx9⟩ (by show 3 * unm (upd P y true) n + (ws' ++ s.kd).length < 3 * unm P n + (ws'.concat (y + 1)).length; simp [Slt.kd]; omega)

end Go.Proofs.Ytapocbahkeoeoaa
