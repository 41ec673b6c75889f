/-
  The program's audit: the findings.
-/
import Derived.Test.YtapocbahkeoeoaaAu3
set_option linter.unusedVariables false
namespace Go.Proofs.Ytapocbahkeoeoaa
open Go.Vc

/-- What stays while the findings are written. -/
structure CkA (w0 w : World) (D : Dp) (roots : List Nat) (P : Nat → Bool) (s1 s2 : Option Addr) (c1 c2 b2 b5 eb mb lb hb lo : Nat) (v : Value) (l : List Fd) : Prop where
  db : At w b2 [.slice s1 D.slots.length c1, .slice s2 D.free.length c2] 36
  oc : At w b5 [v] 46
  e : At w eb (cellsF (fun j => [.int .i64 ((kdsF D.slots).count (j + 1) : Int)]) D.slots.length) 3
  m : At w mb (cellsF (fun j => [.bool (P j)]) D.slots.length) 4
  li : At w lb (cellsF (fun j => [.int .i64 (D.free.count (j + 1) : Int)]) D.slots.length) 3
  he : At w hb (cellsF (fun j => [.int .i64 (roots.count (j + 1) : Int)]) D.slots.length) 3
  out : OwnF w lo v l
  ext : Ext w0 w
  lo' : w0.heap.size ≤ lo
  lw : lo ≤ w.heap.size
  l5 : w0.heap.size ≤ b5

/-- All but the findings stays. -/
def Kpf (w w' : World) : Prop := ∀ b C T, At w b C T → T ≠ 46 → T ≠ 45 → At w' b C T

section
variable {w0 w w' : World} {D : Dp} {roots : List Nat} {P : Nat → Bool} {s1 s2 : Option Addr} {c1 c2 b2 b5 eb mb lb hb lo : Nat} {v v' : Value} {l : List Fd}
theorem CkA.ex (h : CkA w0 w D roots P s1 s2 c1 c2 b2 b5 eb mb lb hb lo v l) (f : Ext w w') : CkA w0 w' D roots P s1 s2 c1 c2 b2 b5 eb mb lb hb lo v l :=
  ⟨h.db.ext f, h.oc.ext f, h.e.ext f, h.m.ext f, h.li.ext f, h.he.ext f, Own.ext h.out f, h.ext.trans f, h.lo', Nat.le_trans h.lw f.size, h.l5⟩

theorem CkA.push (h : CkA w0 w D roots P s1 s2 c1 c2 b2 b5 eb mb lb hb lo v l) {f : Fd}
    (ho : Own w' lo 45 4 v' (l.length + 1) (l.flatMap Fd.cells ++ f.cells)) (hg : w.grownBy w' v.ownBlock) :
    At w' b5 [v] 46 ∧ CkA w0 (w'.setRow b5 [v'].toArray) D roots P s1 s2 c1 c2 b2 b5 eb mb lb hb lo v' (l ++ [f]) ∧ Kpf w (w'.setRow b5 [v'].toArray) := by
  have hf := Fr.of_grown hg
  have hoc := h.oc.fr hf (h.out.nec h.oc (by decide))
  have kp : Kpf w (w'.setRow b5 [v'].toArray) := fun b C T hb n1 n2 => by
    have h1 := hb.fr hf (h.out.nec hb n2)
    exact h1.setRow_ne (hoc.ne h1 (fun e => n1 e.symm)) _
  have hO : OwnF w' lo v' (l ++ [f]) := by
    unfold OwnF
    rw [List.length_append, List.flatMap_append]
    simpa using ho
  have hO2 : OwnF (w'.setRow b5 [v'].toArray) lo v' (l ++ [f]) := Own.of_heap hO fun g hg => setRow_other _ _ _ _ fun e => hO.nec hoc (by decide) (e ▸ hg)
  have hx : Ext w0 w' := ext_grown h.ext h.lo' h.out hg
  refine ⟨hoc, ⟨kp _ _ _ h.db (by decide) (by decide), hoc.setRow _, kp _ _ _ h.e (by decide) (by decide), kp _ _ _ h.m (by decide) (by decide), kp _ _ _ h.li (by decide) (by decide), kp _ _ _ h.he (by decide) (by decide), hO2, Fr.setRow hx _ (Or.inr h.l5), h.lo', Nat.le_trans (Nat.le_trans h.lw hg.size) (by simp), h.l5⟩, kp⟩
end

def repF (kind : Int) (i : Nat) (want have_ : Int) : List Fd := if want = have_ then [] else [⟨kind, i, want, have_⟩]
theorem repF_len (kind : Int) (i : Nat) (a b : Int) : (repF kind i a b).length ≤ 1 := ite_le1

set_option maxHeartbeats 4000000 in
theorem a_report (w0 w : World) (D : Dp) (roots : List Nat) (P : Nat → Bool) (s1 s2 : Option Addr) (c1 c2 b2 b5 eb mb lb hb lo : Nat) (v : Value) (l : List Fd) (bi i : Nat) (kind want have_ : Int)
    (h : CkA w0 w D roots P s1 s2 c1 c2 b2 b5 eb mb lb hb lo v l) (hi : At w bi [.int .u32 (i : Int)] 27) (hl : l.length ≤ 10000000) :
    Calls Try.prog 68 [.int .i64 kind, .int .i64 want, .int .i64 have_, ptr b5, ptr bi].toArray w (Ret fun r w' => r = .tuple #[] ∧ ∃ v', CkA w0 w' D roots P s1 s2 c1 c2 b2 b5 eb mb lb hb lo v' (l ++ repF kind i want have_) ∧ Kpf w w') := by
  have hE := h
  have hE0 := hE
  obtain ⟨hdb, hoc, hea, hma, hla, hha, ho, hxE, hlo, hlw, hl5⟩ := hE0
  unfold OwnF at ho
  obtain ⟨sv, cv, rfl, _, _⟩ := ho.slice
  refine calls_go Try.func68 rfl Try.ntmps68 (Nat.le_of_ble_eq_true rfl) ?_
  by_cases hc : want = have_
  · have e : repF kind i want have_ = [] := by unfold repF; rw [if_pos hc]
    rw [e, List.append_nil]
    repeat (first | refine sp ?_ | (refine is_load ?_; refine ld ?_) | (refine is_store ?_; refine sr ?_) | (refine is_alloc ?_; refine al ?_) | (refine is_box ?_; refine bx ?_) | (refine isl_load ?_; refine ldl ?_) | (refine isl_store ?_; refine srl ?_) | (refine isl_alloc ?_; refine all' ?_) | (refine isl_box ?_; refine bxl ?_))
    exact go_end0 rfl ⟨_, rfl, rfl, _, hE, fun b C T h _ _ => h⟩
  · have e : repF kind i want have_ = [⟨kind, i, want, have_⟩] := by unfold repF; rw [if_neg hc]
    rw [e]
    repeat (first | refine sp ?_ | (refine is_load ?_; refine ld ?_) | (refine is_store ?_; refine sr ?_) | (refine is_alloc ?_; refine al ?_) | (refine is_box ?_; refine bx ?_) | (refine isl_load ?_; refine ldl ?_) | (refine isl_store ?_; refine srl ?_) | (refine isl_alloc ?_; refine all' ?_) | (refine isl_box ?_; refine bxl ?_))
    refine go_pushG (l := [.int .i64 kind, .int .u32 (i : Int), .int .i64 want, .int .i64 have_]) (by decide) rfl rfl rfl rfl ho rfl (fd_one ⟨kind, i, want, have_⟩) (by omega) (by simp [maxLen]; omega) (by omega) (by omega) ?_
    intro vv ww hoo hgg _
    obtain ⟨hoc1, hE1, hkp⟩ := hE.push (f := ⟨kind, i, want, have_⟩) hoo hgg
    obtain ⟨s3, c3, rfl, _, _⟩ := Own.slice hoo
    repeat (first | refine sp ?_ | (refine is_load ?_; refine ld ?_) | (refine is_store ?_; refine sr ?_) | (refine is_alloc ?_; refine al ?_) | (refine is_box ?_; refine bx ?_) | (refine isl_load ?_; refine ldl ?_) | (refine isl_store ?_; refine srl ?_) | (refine isl_alloc ?_; refine all' ?_) | (refine isl_box ?_; refine bxl ?_))
    exact go_end0 rfl ⟨_, rfl, rfl, _, hE1, hkp⟩

theorem fdFree_rep (D : Dp) (k : Nat) (s : Slt) : fdFree D k s = repF 1 (k + 1) (if s.on = true then 0 else 1) (D.free.count (k + 1) : Int) := by
  unfold fdFree repF
  generalize (if s.on = true then (0 : Int) else 1) = z
  by_cases h : (D.free.count (k + 1) : Int) = z
  · rw [if_pos h, if_pos h.symm]
  · rw [if_neg h, if_neg (fun e => h e.symm)]
theorem fdSize_rep (D : Dp) (k : Nat) (s : Slt) : fdSize D k s = repF 3 (k + 1) (szK D s 2) s.nd.size := rfl
theorem fdCnt_rep (D : Dp) (roots : List Nat) (k : Nat) (s : Slt) : fdCnt D roots k s = repF 4 (k + 1) (wantC D roots k s) s.cnt := rfl

set_option maxHeartbeats 20000000 in
theorem a_Check (w : World) (lo0 hi : Nat) (v rv : Value) (D : Dp) (roots : List Nat) (hd : DpAt w lo0 v D) (hok : D.Ok) (hr : RdU w hi rv u32c roots) (hh : hi ≤ w.heap.size) (hrl : roots.length ≤ 1000000) (hrb : ∀ x ∈ roots, x < 4294967296) :
    Calls Try.prog 29 [v, rv].toArray w (Ret fun r w' => ∃ P lo, w.heap.size ≤ lo ∧ OwnF w' lo r (finds D roots P) ∧ Marks D roots P ∧ Ext w w') := by
  have hln := hok.len
  have hfl := hok.flen
  have hd0 := hd
  obtain ⟨sv, fv, rfl, hs, hf⟩ := hd
  have hs' := hs.up
  have hf' := hf.up
  obtain ⟨s1, c1, rfl, h1, _, _⟩ := hs
  obtain ⟨s2, c2, rfl, h2, _, _⟩ := hf
  have hr' := hr
  obtain ⟨sa, cap, rfl, hlc, hrc, _⟩ := hr
  refine calls_go Try.func29 rfl Try.ntmps29 (Nat.le_of_ble_eq_true rfl) ?_
  repeat (first | refine sp ?_ | (refine is_load ?_; refine ld ?_) | (refine is_store ?_; refine sr ?_) | (refine is_alloc ?_; refine al ?_) | (refine is_box ?_; refine bx ?_) | (refine isl_load ?_; refine ldl ?_) | (refine isl_store ?_; refine srl ?_) | (refine isl_alloc ?_; refine all' ?_) | (refine isl_box ?_; refine bxl ?_))
  refine go_name (F := fun w1 => At w1 w.heap.size [.slice s1 D.slots.length c1, .slice s2 D.free.length c2] 36 ∧ At w1 (w.heap.size + 1) [.slice none 0 0] 46 ∧ Ext w w1) ⟨by (repeat (first | assumption | (refine At.new' (by (first | omega | (simp; done) | (simp; omega))) _ _) | apply At.alloc | apply At.drewN | apply At.setRow | (apply At.setRow_neF; first | assumption | (apply Ne.symm; assumption) | omega) | (apply At.extF; assumption))), by (repeat (first | assumption | (refine At.new' (by (first | omega | (simp; done) | (simp; omega))) _ _) | apply At.alloc | apply At.drewN | apply At.setRow | (apply At.setRow_neF; first | assumption | (apply Ne.symm; assumption) | omega) | (apply At.extF; assumption))), by (repeat (first | exact Fr.refl _ _ | assumption | apply Fr.drewN | apply Fr.alloc | (apply Fr.transF; assumption) | (refine Fr.setRow ?_ _ (by first | exact Or.inr (by (first | omega | (simp; done) | (simp; omega))) | (exact Or.inl (by first | assumption | (simp; done)))))))⟩ ?_
  rintro w1 ⟨hdb, hoc, hx1⟩
  refine go_drawE (Fr (fun _ => False) w1) 0 Try.follows (by kernel_rfl) (by kernel_rfl) (by kernel_rfl) ((Fr.refl _ _).drewN 1) ?_
  repeat (first | refine sp ?_ | (refine is_load ?_; refine ld ?_) | (refine is_store ?_; refine sr ?_) | (refine is_alloc ?_; refine al ?_) | (refine is_box ?_; refine bx ?_) | (refine isl_load ?_; refine ldl ?_) | (refine isl_store ?_; refine srl ?_) | (refine isl_alloc ?_; refine all' ?_) | (refine isl_box ?_; refine bxl ?_))
  have hxd : Ext w1 (w1.drewN 1) := (Fr.refl _ _).drewN 1
  refine gol_call rfl rfl (a_tally _ lo0 w.heap.size _ _ D D.free (hd0.ext (hx1.trans hxd)) (hf'.ext (hx1.trans hxd)) (Nat.le_trans hx1.size hxd.size) hfl hln hok.fr) ?_
  rintro lv w2 ⟨hlv, hx2⟩
  have hx2' : Ext w1 w2 := hxd.trans hx2
  refine ⟨hx2', ?_⟩
  repeat (first | refine sp ?_ | (refine is_load ?_; refine ld ?_) | (refine is_store ?_; refine sr ?_) | (refine is_alloc ?_; refine al ?_) | (refine is_box ?_; refine bx ?_) | (refine isl_load ?_; refine ldl ?_) | (refine isl_store ?_; refine srl ?_) | (refine isl_alloc ?_; refine all' ?_) | (refine isl_box ?_; refine bxl ?_))
  have hx2w := hx1.trans hx2'
  refine gol_call rfl rfl (a_tally w2 lo0 hi _ _ D roots (hd0.ext hx2w) (hr'.ext hx2w) (Nat.le_trans hh hx2w.size) hrl hln hrb) ?_
  rintro hv w3 ⟨hhv, hx3⟩
  have hx3' : Ext w1 w3 := hx2'.trans hx3
  refine ⟨hx3', ?_⟩
  repeat (first | refine sp ?_ | (refine is_load ?_; refine ld ?_) | (refine is_store ?_; refine sr ?_) | (refine is_alloc ?_; refine al ?_) | (refine is_box ?_; refine bx ?_) | (refine isl_load ?_; refine ldl ?_) | (refine isl_store ?_; refine srl ?_) | (refine isl_alloc ?_; refine all' ?_) | (refine isl_box ?_; refine bxl ?_))
  have hx3w := hx1.trans hx3'
  refine gol_call rfl rfl (a_InEdges w3 lo0 _ D (hd0.ext hx3w) hok) ?_
  rintro ev w4 ⟨hev, hx4⟩
  have hx4' : Ext w1 w4 := hx3'.trans hx4
  refine ⟨hx4', ?_⟩
  repeat (first | refine sp ?_ | (refine is_load ?_; refine ld ?_) | (refine is_store ?_; refine sr ?_) | (refine is_alloc ?_; refine al ?_) | (refine is_box ?_; refine bx ?_) | (refine isl_load ?_; refine ldl ?_) | (refine isl_store ?_; refine srl ?_) | (refine isl_alloc ?_; refine all' ?_) | (refine isl_box ?_; refine bxl ?_))
  have hx4w := hx1.trans hx4'
  refine gol_call rfl rfl (a_marks w4 lo0 hi _ _ D roots (hd0.ext hx4w) hok (hr'.ext hx4w) (Nat.le_trans hh hx4w.size) hrl hrb) ?_
  rintro mv w5 ⟨P, hmv, hP, hx5⟩
  have hx5' : Ext w1 w5 := hx4'.trans hx5
  refine ⟨hx5', ?_⟩
  have hx5w := hx1.trans hx5'
  replace hdb := hdb.ext hx5'
  replace hoc := hoc.ext hx5'
  replace hlv := ((hlv.ext hx3).ext hx4).ext hx5
  replace hhv := (hhv.ext hx4).ext hx5
  replace hev := hev.ext hx5
  obtain ⟨eb, rfl, heb, hea⟩ := hev
  obtain ⟨mb, rfl, hmb, hma⟩ := hmv
  obtain ⟨lb, rfl, hlb, hla⟩ := hlv
  obtain ⟨hb, rfl, hhb, hha⟩ := hhv
  have hE : CkA w w5 D roots P s1 s2 c1 c2 w.heap.size (w.heap.size + 1) eb mb lb hb w5.heap.size (.slice none 0 0) [] := ⟨hdb, hoc, hea, hma, hla, hha, Own.nil _ _ _ _, hx5w, hx5w.size, Nat.le_refl _, by omega⟩
  generalize w5.heap.size = lo at hE
  generalize w.heap.size + 1 = b5 at hE
  clear hdb hoc hea hma hla hha heb hmb hlb hhb
  have hE0 := hE
  obtain ⟨hdb, hoc, hea, hma, hla, hha, ho, hxE, hlo, hlw, hl5⟩ := hE0
  repeat (first | refine sp ?_ | (refine is_load ?_; refine ld ?_) | (refine is_store ?_; refine sr ?_) | (refine is_alloc ?_; refine al ?_) | (refine is_box ?_; refine bx ?_) | (refine isl_load ?_; refine ldl ?_) | (refine isl_store ?_; refine srl ?_) | (refine isl_alloc ?_; refine all' ?_) | (refine isl_box ?_; refine bxl ?_))
  refine go_loop (G := Nat × Value × List Fd) [36] (fun ⟨k, _, _⟩ => [.int .i64 (k : Int)]) [(1, .slice sa roots.length cap), (2, ptr w.heap.size), (5, ptr b5), (6, .slice (some ⟨lb, 0, none⟩) D.slots.length D.slots.length), (7, .slice (some ⟨hb, 0, none⟩) D.slots.length D.slots.length), (8, .slice (some ⟨eb, 0, none⟩) D.slots.length D.slots.length), (9, .slice (some ⟨mb, 0, none⟩) D.slots.length D.slots.length), (34, .slice s1 D.slots.length c1), (35, .int .i64 (D.slots.length : Int))]
    (fun ⟨k, v, l⟩ w' => k ≤ D.slots.length ∧ l = fdSlots D roots P k ∧ CkA w w' D roots P s1 s2 c1 c2 w.heap.size b5 eb mb lb hb lo v l) (fun g => D.slots.length - g.1) (0, .slice none 0 0, []) rfl ⟨rfl, rfl, rfl, rfl, rfl, rfl, rfl, rfl, rfl, trivial⟩ ⟨by omega, rfl, hE⟩ ?_
  clear hE
  clear hdb hoc hea hma hla hha ho hxE
  rintro ⟨k, v, l⟩ w6 ⟨hk, hl, hE⟩
  by_cases hlt : k < D.slots.length
  · have hsk : D.slots[k]? = some D.slots[k] := List.getElem?_eq_getElem hlt
    have hll : l.length ≤ 6000000 := by have := fdSlots_len D roots P k; rw [← hl] at this; omega
    have hsucc := fdSlots_succ (roots := roots) (P := P) hsk
    rw [← hl] at hsucc
    clear hl
    obtain ⟨b, o, e, hbl, hcell⟩ := (hs'.ext hE.ext).at (m := 11) slt_len (by omega) hlt
    subst e
    have hkid := hok.kid _ (List.getElem_mem hlt)
    have hcE : (cellsF (fun j => [Value.int .i64 ((kdsF D.slots).count (j + 1) : Int)]) D.slots.length)[0 + k]? = some (.int .i64 ((kdsF D.slots).count (k + 1) : Int)) := by
      rw [Nat.zero_add]; exact one_get (f := fun j => Value.int .i64 ((kdsF D.slots).count (j + 1) : Int)) hlt
    have hcM : (cellsF (fun j => [Value.bool (P j)]) D.slots.length)[0 + k]? = some (.bool (P k)) := by
      rw [Nat.zero_add]; exact one_get (f := fun j => Value.bool (P j)) hlt
    have hcL : (cellsF (fun j => [Value.int .i64 (D.free.count (j + 1) : Int)]) D.slots.length)[0 + k]? = some (.int .i64 (D.free.count (k + 1) : Int)) := by
      rw [Nat.zero_add]; exact one_get (f := fun j => Value.int .i64 (D.free.count (j + 1) : Int)) hlt
    have hcH : (cellsF (fun j => [Value.int .i64 (roots.count (j + 1) : Int)]) D.slots.length)[0 + k]? = some (.int .i64 (roots.count (k + 1) : Int)) := by
      rw [Nat.zero_add]; exact one_get (f := fun j => Value.int .i64 (roots.count (j + 1) : Int)) hlt
    have hb1 : (kdsF D.slots).count (k + 1) ≤ 2000000 := Nat.le_trans List.count_le_length (Nat.le_trans (kdsF_len _) (by omega))
    have hb2 : roots.count (k + 1) ≤ 1000000 := Nat.le_trans List.count_le_length hrl
    generalize D.slots[k] = s at *
    have hE0 := hE
    obtain ⟨hdb, hoc, hea, hma, hla, hha, ho, hxE, hlo, hlw, hl5⟩ := hE0
    repeat (first | refine sp ?_ | (refine is_load ?_; refine ld ?_) | (refine is_store ?_; refine sr ?_) | (refine is_alloc ?_; refine al ?_) | (refine is_box ?_; refine bx ?_) | (refine isl_load ?_; refine ldl ?_) | (refine isl_store ?_; refine srl ?_) | (refine isl_alloc ?_; refine all' ?_) | (refine isl_box ?_; refine bxl ?_))
    refine go_load (v := .agg s.cells.toArray) rfl rfl (ld_cells (m := 11) rfl (by decide) fun j u hj => by rw [addr_add]; exact hcell j u hj) ?_
    unfold Slt.cells
    repeat (first | refine sp ?_ | (refine is_load ?_; refine ld ?_) | (refine is_store ?_; refine sr ?_) | (refine is_alloc ?_; refine al ?_) | (refine is_box ?_; refine bx ?_) | (refine isl_load ?_; refine ldl ?_) | (refine isl_store ?_; refine srl ?_) | (refine isl_alloc ?_; refine all' ?_) | (refine isl_box ?_; refine bxl ?_))
    refine go_p rfl (pr_makeFunc rfl) ?_
    repeat (first | refine sp ?_ | (refine is_load ?_; refine ld ?_) | (refine is_store ?_; refine sr ?_) | (refine is_alloc ?_; refine al ?_) | (refine is_box ?_; refine bx ?_) | (refine isl_load ?_; refine ldl ?_) | (refine isl_store ?_; refine srl ?_) | (refine isl_alloc ?_; refine all' ?_) | (refine isl_box ?_; refine bxl ?_))
    refine go_name (F := fun w7 => At w7 w6.heap.size [.bool s.on, .int .i64 s.cnt, .int .u32 (s.gen : Int), .int .i64 s.nd.key, .int .i64 s.nd.val, .int .u32 (s.nd.left : Int), .int .u32 (s.nd.right : Int), .int .i64 s.nd.size, .int .i64 s.nd.sum, .int .i64 s.nd.mn, .int .i64 s.nd.mx] 52 ∧ At w7 (w6.heap.size + 1) [.int .u32 ((k + 1 : Nat) : Int)] 27 ∧ Ext w6 w7) ⟨by (repeat (first | assumption | (refine At.new' (by (first | omega | (simp; done) | (simp; omega))) _ _) | apply At.alloc | apply At.drewN | apply At.setRow | (apply At.setRow_neF; first | assumption | (apply Ne.symm; assumption) | omega) | (apply At.extF; assumption))), by (repeat (first | assumption | (refine At.new' (by (first | omega | (simp; done) | (simp; omega))) _ _) | apply At.alloc | apply At.drewN | apply At.setRow | (apply At.setRow_neF; first | assumption | (apply Ne.symm; assumption) | omega) | (apply At.extF; assumption))), by (repeat (first | exact Fr.refl _ _ | assumption | apply Fr.drewN | apply Fr.alloc | (apply Fr.transF; assumption) | (refine Fr.setRow ?_ _ (by first | exact Or.inr (by (first | omega | (simp; done) | (simp; omega))) | (exact Or.inl (by first | assumption | (simp; done)))))))⟩ ?_
    rintro w7 ⟨hsl, hbi, hx7⟩
    clear hdb hoc hea hma hla hha ho hxE
    clear hcell
    replace hE := hE.ex hx7
    generalize w6.heap.size + 1 = bi at hbi ⊢
    generalize w6.heap.size = bs at hsl ⊢
    have hE0 := hE
    obtain ⟨hdb, hoc, hea, hma, hla, hha, ho, hxE, hlo, hlw, hl5⟩ := hE0
    have hl0 := hll
    cases hon : s.on with
    | false =>
      rw [hon] at hsl
      repeat (first | refine sp ?_ | (refine is_load ?_; refine ld ?_) | (refine is_store ?_; refine sr ?_) | (refine is_alloc ?_; refine al ?_) | (refine is_box ?_; refine bx ?_) | (refine isl_load ?_; refine ldl ?_) | (refine isl_store ?_; refine srl ?_) | (refine isl_alloc ?_; refine all' ?_) | (refine isl_box ?_; refine bxl ?_))
      refine go_callv rfl rfl rfl (a_report w w7 D roots P _ s2 c1 c2 _ b5 eb mb lb hb lo _ l bi (k + 1) 1 1 (D.free.count (k + 1) : Int) hE hbi (by omega)) ?_
      clear hdb hoc hea hma hla hha ho hxE
      rintro _ w8 ⟨rfl, v8, hE8, hkp⟩
      replace hsl := hkp _ _ _ hsl (by decide) (by decide)
      replace hbi := hkp _ _ _ hbi (by decide) (by decide)
      clear hE hkp
      have hE := hE8
      have hl1 : (l ++ repF 1 (k + 1) 1 (D.free.count (k + 1) : Int)).length ≤ 6000001 := by
        have := repF_len 1 (k + 1) 1 (D.free.count (k + 1) : Int)
        rw [List.length_append]; omega
      generalize hlA : l ++ repF 1 (k + 1) 1 (D.free.count (k + 1) : Int) = lA at *
      have hE0 := hE
      obtain ⟨hdb, hoc, hea, hma, hla, hha, ho, hxE, hlo, hlw, hl5⟩ := hE0
      clear hE8
      repeat (first | refine sp ?_ | (refine is_load ?_; refine ld ?_) | (refine is_store ?_; refine sr ?_) | (refine is_alloc ?_; refine al ?_) | (refine is_box ?_; refine bx ?_) | (refine isl_load ?_; refine ldl ?_) | (refine isl_store ?_; refine srl ?_) | (refine isl_alloc ?_; refine all' ?_) | (refine isl_box ?_; refine bxl ?_))
      refine go_callv rfl rfl rfl (a_report w w8 D roots P _ s2 c1 c2 _ b5 eb mb lb hb lo _ lA bi (k + 1) 4 0 s.cnt hE hbi (by omega)) ?_
      clear hdb hoc hea hma hla hha ho hxE
      rintro _ w9 ⟨rfl, v9, hE9, hkp⟩
      repeat (first | refine sp ?_ | (refine is_load ?_; refine ld ?_) | (refine is_store ?_; refine sr ?_) | (refine is_alloc ?_; refine al ?_) | (refine is_box ?_; refine bx ?_) | (refine isl_load ?_; refine ldl ?_) | (refine isl_store ?_; refine srl ?_) | (refine isl_alloc ?_; refine all' ?_) | (refine isl_box ?_; refine bxl ?_))
      refine go_stop (G := Nat × Value × List Fd) (k + 1, v9, _) rfl ⟨rfl, rfl, rfl, rfl, rfl, rfl, rfl, rfl, rfl, trivial⟩ ⟨hlt, ?_, hE9⟩ (by show D.slots.length - (k + 1) < D.slots.length - k; omega)
      rw [hsucc, ← hlA]
      simp [fdSlot, fdMid, fdLeak, hon, fdFree_rep, fdCnt_rep, wantC]
    | true =>
      rw [hon] at hsl
      repeat (first | refine sp ?_ | (refine is_load ?_; refine ld ?_) | (refine is_store ?_; refine sr ?_) | (refine is_alloc ?_; refine al ?_) | (refine is_box ?_; refine bx ?_) | (refine isl_load ?_; refine ldl ?_) | (refine isl_store ?_; refine srl ?_) | (refine isl_alloc ?_; refine all' ?_) | (refine isl_box ?_; refine bxl ?_))
      refine go_callv rfl rfl rfl (a_report w w7 D roots P _ s2 c1 c2 _ b5 eb mb lb hb lo _ l bi (k + 1) 1 0 (D.free.count (k + 1) : Int) hE hbi (by omega)) ?_
      clear hdb hoc hea hma hla hha ho hxE
      rintro _ w8 ⟨rfl, v8, hE8, hkp⟩
      replace hsl := hkp _ _ _ hsl (by decide) (by decide)
      replace hbi := hkp _ _ _ hbi (by decide) (by decide)
      clear hE hkp
      have hE := hE8
      have hl1 : (l ++ repF 1 (k + 1) 0 (D.free.count (k + 1) : Int)).length ≤ 6000001 := by
        have := repF_len 1 (k + 1) 0 (D.free.count (k + 1) : Int)
        rw [List.length_append]; omega
      generalize hlA : l ++ repF 1 (k + 1) 0 (D.free.count (k + 1) : Int) = lA at *
      have hE0 := hE
      obtain ⟨hdb, hoc, hea, hma, hla, hha, ho, hxE, hlo, hlw, hl5⟩ := hE0
      clear hE8
      repeat (first | refine sp ?_ | (refine is_load ?_; refine ld ?_) | (refine is_store ?_; refine sr ?_) | (refine is_alloc ?_; refine al ?_) | (refine is_box ?_; refine bx ?_) | (refine isl_load ?_; refine ldl ?_) | (refine isl_store ?_; refine srl ?_) | (refine isl_alloc ?_; refine all' ?_) | (refine isl_box ?_; refine bxl ?_))
      refine go_call rfl rfl (a_children w8 ⟨true, s.cnt, s.gen, s.nd⟩) ?_
      clear hdb hoc hea hma hla hha ho hxE
      rintro _ w9 ⟨rfl, hx9⟩
      replace hE := hE.ex hx9
      replace hsl := hsl.ext hx9
      replace hbi := hbi.ext hx9
      repeat (first | refine sp ?_ | (refine is_load ?_; refine ld ?_) | (refine is_store ?_; refine sr ?_) | (refine is_alloc ?_; refine al ?_) | (refine is_box ?_; refine bx ?_) | (refine isl_load ?_; refine ldl ?_) | (refine isl_store ?_; refine srl ?_) | (refine isl_alloc ?_; refine all' ?_) | (refine isl_box ?_; refine bxl ?_))
      refine go_loop (G := Nat × Value × List Fd) [66, 14] (fun ⟨i, _, _⟩ => [.int .i64 (i : Int), .int .i64 (szK D s i)]) [(1, .slice sa roots.length cap), (2, ptr w.heap.size), (5, ptr b5), (6, .slice (some ⟨lb, 0, none⟩) D.slots.length D.slots.length), (7, .slice (some ⟨hb, 0, none⟩) D.slots.length D.slots.length), (8, .slice (some ⟨eb, 0, none⟩) D.slots.length D.slots.length), (9, .slice (some ⟨mb, 0, none⟩) D.slots.length D.slots.length), (34, .slice (some ⟨b, o, none⟩) D.slots.length c1), (35, .int .i64 (D.slots.length : Int)), (36, .int .i64 (k : Int)), (10, .int .i64 (k : Int)), (11, ptr bs), (12, ptr bi), (13, .func (.func 68) #[] [ptr b5, ptr bi].toArray), (65, .agg ⟨[.int .u32 (s.nd.left : Int), .int .u32 (s.nd.right : Int)]⟩)]
        (fun ⟨i, v', l'⟩ w' => i ≤ 2 ∧ l' = lA ++ fdK D (k + 1) s i ∧ CkA w w' D roots P (some ⟨b, o, none⟩) s2 c1 c2 w.heap.size b5 eb mb lb hb lo v' l' ∧ At w' bs [.bool true, .int .i64 s.cnt, .int .u32 (s.gen : Int), .int .i64 s.nd.key, .int .i64 s.nd.val, .int .u32 (s.nd.left : Int), .int .u32 (s.nd.right : Int), .int .i64 s.nd.size, .int .i64 s.nd.sum, .int .i64 s.nd.mn, .int .i64 s.nd.mx] 52 ∧ At w' bi [.int .u32 ((k + 1 : Nat) : Int)] 27) (fun g => 2 - g.1) (0, _, lA) rfl ⟨rfl, rfl, rfl, rfl, rfl, rfl, rfl, rfl, rfl, rfl, rfl, rfl, rfl, rfl, rfl, trivial⟩ ⟨by omega, by simp [fdK], hE, hsl, hbi⟩ ?_
      clear hE hsl hbi
      rintro ⟨i, v, lB⟩ w11 ⟨hi, hlB, hE, hsl, hbi⟩
      have hlBl : lB.length ≤ 6000003 := by
        have h2 : (fdK D (k + 1) s i).length ≤ 2 := by
          have := flatMap_le (fdKid D (k + 1)) 1 (fdKid_len D (k + 1)) (s.kd.take i)
          have h3 : (s.kd.take i).length ≤ 2 := by rw [List.length_take]; simp [Slt.kd]; omega
          unfold fdK; omega
        rw [hlB, List.length_append]; omega
      have hE0 := hE
      obtain ⟨hdb, hoc, hea, hma, hla, hha, ho, hxE, hlo, hlw, hl5⟩ := hE0
      have hi3 : i = 0 ∨ i = 1 ∨ i = 2 := by omega
      rcases hi3 with rfl | rfl | rfl
      · have hc32 : s.nd.left < 4294967296 := hkid.1
        have ekd : fdK D (k + 1) s (0 + 1) = fdK D (k + 1) s 0 ++ fdKid D (k + 1) s.nd.left := by simp [fdK, Slt.kd]
        have eszk : szK D s (0 + 1) = szAdd D (szK D s 0) s.nd.left := rfl
        repeat (first | refine sp ?_ | (refine is_load ?_; refine ld ?_) | (refine is_store ?_; refine sr ?_) | (refine is_alloc ?_; refine al ?_) | (refine is_box ?_; refine bx ?_) | (refine isl_load ?_; refine ldl ?_) | (refine isl_store ?_; refine srl ?_) | (refine isl_alloc ?_; refine all' ?_) | (refine isl_box ?_; refine bxl ?_))
        refine go_call rfl rfl (a_allocated w11 lo0 _ D s.nd.left (hd0.ext hE.ext) (by omega) hc32) ?_
        clear hdb hoc hea hma hla hha ho hxE
        rintro _ w12 ⟨rfl, hx12⟩
        replace hE := hE.ex hx12
        replace hsl := hsl.ext hx12
        replace hbi := hbi.ext hx12
        have hE0 := hE
        obtain ⟨hdb, hoc, hea, hma, hla, hha, ho, hxE, hlo, hlw, hl5⟩ := hE0
        cases hal : D.al s.nd.left with
        | false =>
          have esz : szK D s (0 + 1) = szK D s 0 := by rw [eszk]; unfold szAdd; rw [hal]; rfl
          have ek : fdKid D (k + 1) s.nd.left = if s.nd.left = 0 then [] else [⟨2, k + 1, 0, (s.nd.left : Int)⟩] := by unfold fdKid; rw [hal]; rfl
          by_cases h0 : s.nd.left = 0
          · rw [if_pos h0] at ek
            repeat (first | refine sp ?_ | (refine is_load ?_; refine ld ?_) | (refine is_store ?_; refine sr ?_) | (refine is_alloc ?_; refine al ?_) | (refine is_box ?_; refine bx ?_) | (refine isl_load ?_; refine ldl ?_) | (refine isl_store ?_; refine srl ?_) | (refine isl_alloc ?_; refine all' ?_) | (refine isl_box ?_; refine bxl ?_))
            refine go_as 14 (u' := .int .i64 (szK D s (0 + 1))) rfl (by rw [esz]) ?_
            exact go_stop (G := Nat × Value × List Fd) (0 + 1, _, lB) rfl ⟨rfl, rfl, rfl, rfl, rfl, rfl, rfl, rfl, rfl, rfl, rfl, rfl, rfl, rfl, rfl, trivial⟩ ⟨by omega, by rw [hlB, ekd, ek, List.append_nil], hE, hsl, hbi⟩ (by show 2 - (0 + 1) < 2 - 0; omega)
          · rw [if_neg h0] at ek
            unfold OwnF at ho
            obtain ⟨sv, cv, rfl, _, _⟩ := ho.slice
            repeat (first | refine sp ?_ | (refine is_load ?_; refine ld ?_) | (refine is_store ?_; refine sr ?_) | (refine is_alloc ?_; refine al ?_) | (refine is_box ?_; refine bx ?_) | (refine isl_load ?_; refine ldl ?_) | (refine isl_store ?_; refine srl ?_) | (refine isl_alloc ?_; refine all' ?_) | (refine isl_box ?_; refine bxl ?_))
            refine go_pushG (l := [.int .i64 2, .int .u32 ((k + 1 : Nat) : Int), .int .i64 0, .int .i64 (s.nd.left : Int)]) (by decide) rfl rfl rfl rfl ho rfl (fd_one ⟨2, k + 1, 0, (s.nd.left : Int)⟩) (by omega) (by simp [maxLen]; omega) (by omega) (by omega) ?_
            intro vv ww hoo hgg _
            obtain ⟨hoc1, hE1, hkp⟩ := hE.push (f := ⟨2, k + 1, 0, (s.nd.left : Int)⟩) hoo hgg
            obtain ⟨s3, c3, rfl, _, _⟩ := Own.slice hoo
            repeat (first | refine sp ?_ | (refine is_load ?_; refine ld ?_) | (refine is_store ?_; refine sr ?_) | (refine is_alloc ?_; refine al ?_) | (refine is_box ?_; refine bx ?_) | (refine isl_load ?_; refine ldl ?_) | (refine isl_store ?_; refine srl ?_) | (refine isl_alloc ?_; refine all' ?_) | (refine isl_box ?_; refine bxl ?_))
            refine go_as 14 (u' := .int .i64 (szK D s (0 + 1))) rfl (by rw [esz]) ?_
            exact go_stop (G := Nat × Value × List Fd) (0 + 1, _, _) rfl ⟨rfl, rfl, rfl, rfl, rfl, rfl, rfl, rfl, rfl, rfl, rfl, rfl, rfl, rfl, rfl, trivial⟩ ⟨by omega, by rw [hlB, ekd, ek, List.append_assoc], hE1, hkp _ _ _ hsl (by decide) (by decide), hkp _ _ _ hbi (by decide) (by decide)⟩ (by show 2 - (0 + 1) < 2 - 0; omega)
        | true =>
          obtain ⟨y, hy, hyl, hyo⟩ := Dp.al_lt hal
          have esz : szK D s (0 + 1) = w64 (szK D s 0 + D.slots[y].nd.size) := by
            rw [eszk]; unfold szAdd; rw [if_pos hal, hy]; simp [Dp.szAt, List.getElem?_eq_getElem hyl]
          have ek : fdKid D (k + 1) s.nd.left = [] := by unfold fdKid; rw [if_pos hal]
          obtain ⟨b2, o2, e2, hbl2, hcell2⟩ := (hs'.ext hE.ext).at (m := 11) slt_len (by omega) hyl
          simp only [Option.some.injEq, Addr.mk.injEq, and_true] at e2
          obtain ⟨rfl, rfl⟩ := e2
          have e7 : w12.cell? ⟨b, o + y * 11 + 3 + 4, none⟩ = some (.int .i64 D.slots[y].nd.size) := by
            have := hcell2 7 (.int .i64 D.slots[y].nd.size) rfl
            simpa [Nat.add_assoc] using this
          generalize D.slots[y].nd.size = zz at *
          repeat (first | refine sp ?_ | (refine is_load ?_; refine ld ?_) | (refine is_store ?_; refine sr ?_) | (refine is_alloc ?_; refine al ?_) | (refine is_box ?_; refine bx ?_) | (refine isl_load ?_; refine ldl ?_) | (refine isl_store ?_; refine srl ?_) | (refine isl_alloc ?_; refine all' ?_) | (refine isl_box ?_; refine bxl ?_))
          refine go_as 76 (u' := .int .u32 (y : Int)) rfl (by rw [hy]; congr 1; omega) ?_
          repeat (first | refine sp ?_ | (refine is_load ?_; refine ld ?_) | (refine is_store ?_; refine sr ?_) | (refine is_alloc ?_; refine al ?_) | (refine is_box ?_; refine bx ?_) | (refine isl_load ?_; refine ldl ?_) | (refine isl_store ?_; refine srl ?_) | (refine isl_alloc ?_; refine all' ?_) | (refine isl_box ?_; refine bxl ?_))
          refine go_as 14 (u' := .int .i64 (szK D s (0 + 1))) rfl (by rw [esz]; rfl) ?_
          exact go_stop (G := Nat × Value × List Fd) (0 + 1, _, lB) rfl ⟨rfl, rfl, rfl, rfl, rfl, rfl, rfl, rfl, rfl, rfl, rfl, rfl, rfl, rfl, rfl, trivial⟩ ⟨by omega, by rw [hlB, ekd, ek, List.append_nil], hE, hsl, hbi⟩ (by show 2 - (0 + 1) < 2 - 0; omega)
      · have hc32 : s.nd.right < 4294967296 := hkid.2
        have ekd : fdK D (k + 1) s (1 + 1) = fdK D (k + 1) s 1 ++ fdKid D (k + 1) s.nd.right := by simp [fdK, Slt.kd]
        have eszk : szK D s (1 + 1) = szAdd D (szK D s 1) s.nd.right := rfl
        repeat (first | refine sp ?_ | (refine is_load ?_; refine ld ?_) | (refine is_store ?_; refine sr ?_) | (refine is_alloc ?_; refine al ?_) | (refine is_box ?_; refine bx ?_) | (refine isl_load ?_; refine ldl ?_) | (refine isl_store ?_; refine srl ?_) | (refine isl_alloc ?_; refine all' ?_) | (refine isl_box ?_; refine bxl ?_))
        refine go_call rfl rfl (a_allocated w11 lo0 _ D s.nd.right (hd0.ext hE.ext) (by omega) hc32) ?_
        clear hdb hoc hea hma hla hha ho hxE
        rintro _ w12 ⟨rfl, hx12⟩
        replace hE := hE.ex hx12
        replace hsl := hsl.ext hx12
        replace hbi := hbi.ext hx12
        have hE0 := hE
        obtain ⟨hdb, hoc, hea, hma, hla, hha, ho, hxE, hlo, hlw, hl5⟩ := hE0
        cases hal : D.al s.nd.right with
        | false =>
          have esz : szK D s (1 + 1) = szK D s 1 := by rw [eszk]; unfold szAdd; rw [hal]; rfl
          have ek : fdKid D (k + 1) s.nd.right = if s.nd.right = 0 then [] else [⟨2, k + 1, 0, (s.nd.right : Int)⟩] := by unfold fdKid; rw [hal]; rfl
          by_cases h0 : s.nd.right = 0
          · rw [if_pos h0] at ek
            repeat (first | refine sp ?_ | (refine is_load ?_; refine ld ?_) | (refine is_store ?_; refine sr ?_) | (refine is_alloc ?_; refine al ?_) | (refine is_box ?_; refine bx ?_) | (refine isl_load ?_; refine ldl ?_) | (refine isl_store ?_; refine srl ?_) | (refine isl_alloc ?_; refine all' ?_) | (refine isl_box ?_; refine bxl ?_))
            refine go_as 14 (u' := .int .i64 (szK D s (1 + 1))) rfl (by rw [esz]) ?_
            exact go_stop (G := Nat × Value × List Fd) (1 + 1, _, lB) rfl ⟨rfl, rfl, rfl, rfl, rfl, rfl, rfl, rfl, rfl, rfl, rfl, rfl, rfl, rfl, rfl, trivial⟩ ⟨by omega, by rw [hlB, ekd, ek, List.append_nil], hE, hsl, hbi⟩ (by show 2 - (1 + 1) < 2 - 1; omega)
          · rw [if_neg h0] at ek
            unfold OwnF at ho
            obtain ⟨sv, cv, rfl, _, _⟩ := ho.slice
            repeat (first | refine sp ?_ | (refine is_load ?_; refine ld ?_) | (refine is_store ?_; refine sr ?_) | (refine is_alloc ?_; refine al ?_) | (refine is_box ?_; refine bx ?_) | (refine isl_load ?_; refine ldl ?_) | (refine isl_store ?_; refine srl ?_) | (refine isl_alloc ?_; refine all' ?_) | (refine isl_box ?_; refine bxl ?_))
            refine go_pushG (l := [.int .i64 2, .int .u32 ((k + 1 : Nat) : Int), .int .i64 0, .int .i64 (s.nd.right : Int)]) (by decide) rfl rfl rfl rfl ho rfl (fd_one ⟨2, k + 1, 0, (s.nd.right : Int)⟩) (by omega) (by simp [maxLen]; omega) (by omega) (by omega) ?_
            intro vv ww hoo hgg _
            obtain ⟨hoc1, hE1, hkp⟩ := hE.push (f := ⟨2, k + 1, 0, (s.nd.right : Int)⟩) hoo hgg
            obtain ⟨s3, c3, rfl, _, _⟩ := Own.slice hoo
            repeat (first | refine sp ?_ | (refine is_load ?_; refine ld ?_) | (refine is_store ?_; refine sr ?_) | (refine is_alloc ?_; refine al ?_) | (refine is_box ?_; refine bx ?_) | (refine isl_load ?_; refine ldl ?_) | (refine isl_store ?_; refine srl ?_) | (refine isl_alloc ?_; refine all' ?_) | (refine isl_box ?_; refine bxl ?_))
            refine go_as 14 (u' := .int .i64 (szK D s (1 + 1))) rfl (by rw [esz]) ?_
            exact go_stop (G := Nat × Value × List Fd) (1 + 1, _, _) rfl ⟨rfl, rfl, rfl, rfl, rfl, rfl, rfl, rfl, rfl, rfl, rfl, rfl, rfl, rfl, rfl, trivial⟩ ⟨by omega, by rw [hlB, ekd, ek, List.append_assoc], hE1, hkp _ _ _ hsl (by decide) (by decide), hkp _ _ _ hbi (by decide) (by decide)⟩ (by show 2 - (1 + 1) < 2 - 1; omega)
        | true =>
          obtain ⟨y, hy, hyl, hyo⟩ := Dp.al_lt hal
          have esz : szK D s (1 + 1) = w64 (szK D s 1 + D.slots[y].nd.size) := by
            rw [eszk]; unfold szAdd; rw [if_pos hal, hy]; simp [Dp.szAt, List.getElem?_eq_getElem hyl]
          have ek : fdKid D (k + 1) s.nd.right = [] := by unfold fdKid; rw [if_pos hal]
          obtain ⟨b2, o2, e2, hbl2, hcell2⟩ := (hs'.ext hE.ext).at (m := 11) slt_len (by omega) hyl
          simp only [Option.some.injEq, Addr.mk.injEq, and_true] at e2
          obtain ⟨rfl, rfl⟩ := e2
          have e7 : w12.cell? ⟨b, o + y * 11 + 3 + 4, none⟩ = some (.int .i64 D.slots[y].nd.size) := by
            have := hcell2 7 (.int .i64 D.slots[y].nd.size) rfl
            simpa [Nat.add_assoc] using this
          generalize D.slots[y].nd.size = zz at *
          repeat (first | refine sp ?_ | (refine is_load ?_; refine ld ?_) | (refine is_store ?_; refine sr ?_) | (refine is_alloc ?_; refine al ?_) | (refine is_box ?_; refine bx ?_) | (refine isl_load ?_; refine ldl ?_) | (refine isl_store ?_; refine srl ?_) | (refine isl_alloc ?_; refine all' ?_) | (refine isl_box ?_; refine bxl ?_))
          refine go_as 76 (u' := .int .u32 (y : Int)) rfl (by rw [hy]; congr 1; omega) ?_
          repeat (first | refine sp ?_ | (refine is_load ?_; refine ld ?_) | (refine is_store ?_; refine sr ?_) | (refine is_alloc ?_; refine al ?_) | (refine is_box ?_; refine bx ?_) | (refine isl_load ?_; refine ldl ?_) | (refine isl_store ?_; refine srl ?_) | (refine isl_alloc ?_; refine all' ?_) | (refine isl_box ?_; refine bxl ?_))
          refine go_as 14 (u' := .int .i64 (szK D s (1 + 1))) rfl (by rw [esz]; rfl) ?_
          exact go_stop (G := Nat × Value × List Fd) (1 + 1, _, lB) rfl ⟨rfl, rfl, rfl, rfl, rfl, rfl, rfl, rfl, rfl, rfl, rfl, rfl, rfl, rfl, rfl, trivial⟩ ⟨by omega, by rw [hlB, ekd, ek, List.append_nil], hE, hsl, hbi⟩ (by show 2 - (1 + 1) < 2 - 1; omega)
      · clear hdb hoc hea hma hla hha ho hxE
        have hE0 := hE
        obtain ⟨hdb, hoc, hea, hma, hla, hha, ho, hxE, hlo, hlw, hl5⟩ := hE0
        repeat (first | refine sp ?_ | (refine is_load ?_; refine ld ?_) | (refine is_store ?_; refine sr ?_) | (refine is_alloc ?_; refine al ?_) | (refine is_box ?_; refine bx ?_) | (refine isl_load ?_; refine ldl ?_) | (refine isl_store ?_; refine srl ?_) | (refine isl_alloc ?_; refine all' ?_) | (refine isl_box ?_; refine bxl ?_))
        refine go_callv rfl rfl rfl (a_report w w11 D roots P _ s2 c1 c2 _ b5 eb mb lb hb lo _ lB bi (k + 1) 3 (szK D s 2) s.nd.size hE hbi (by omega)) ?_
        clear hdb hoc hea hma hla hha ho hxE
        rintro _ w12 ⟨rfl, v12, hE12, hkp⟩
        replace hsl := hkp _ _ _ hsl (by decide) (by decide)
        replace hbi := hkp _ _ _ hbi (by decide) (by decide)
        clear hE hkp
        have hE := hE12
        have hl2 : (lB ++ repF 3 (k + 1) (szK D s 2) s.nd.size).length ≤ 6000004 := by
          have := repF_len 3 (k + 1) (szK D s 2) s.nd.size
          rw [List.length_append]; omega
        generalize hlD : lB ++ repF 3 (k + 1) (szK D s 2) s.nd.size = lD at *
        have hE0 := hE
        obtain ⟨hdb, hoc, hea, hma, hla, hha, ho, hxE, hlo, hlw, hl5⟩ := hE0
        clear hE12
        repeat (first | refine sp ?_ | (refine is_load ?_; refine ld ?_) | (refine is_store ?_; refine sr ?_) | (refine is_alloc ?_; refine al ?_) | (refine is_box ?_; refine bx ?_) | (refine isl_load ?_; refine ldl ?_) | (refine isl_store ?_; refine srl ?_) | (refine isl_alloc ?_; refine all' ?_) | (refine isl_box ?_; refine bxl ?_))
        refine go_drawE (Fr (fun _ => False) w12) 1 Try.follows (by kernel_rfl) (by kernel_rfl) (by kernel_rfl) ((Fr.refl _ _).drewN 1) ?_
        repeat (first | refine sp ?_ | (refine is_load ?_; refine ld ?_) | (refine is_store ?_; refine sr ?_) | (refine is_alloc ?_; refine al ?_) | (refine is_box ?_; refine bx ?_) | (refine isl_load ?_; refine ldl ?_) | (refine isl_store ?_; refine srl ?_) | (refine isl_alloc ?_; refine all' ?_) | (refine isl_box ?_; refine bxl ?_))
        have hwc : ((kdsF D.slots).count (k + 1) : Int) + (roots.count (k + 1) : Int) = wantC D roots k s := by unfold wantC; rw [hon]; rfl
        refine go_as 107 (u' := .int .i64 (wantC D roots k s)) rfl (by rw [hwc]) ?_
        have hxd : Ext w12 (w12.drewN 1) := (Fr.refl _ _).drewN 1
        clear hdb hoc hea hma hla hha ho hxE
        replace hE := hE.ex hxd
        replace hsl := hsl.ext hxd
        replace hbi := hbi.ext hxd
        refine gol_callv rfl rfl rfl (a_report w _ D roots P _ s2 c1 c2 _ b5 eb mb lb hb lo _ lD bi (k + 1) 4 (wantC D roots k s) s.cnt hE hbi (by omega)) ?_
        rintro _ w13 ⟨rfl, v13, hE13, hkp⟩
        refine ⟨by trivial, ?_⟩
        replace hsl := hkp _ _ _ hsl (by decide) (by decide)
        replace hbi := hkp _ _ _ hbi (by decide) (by decide)
        clear hE hkp
        have hE := hE13
        have hl3 : (lD ++ repF 4 (k + 1) (wantC D roots k s) s.cnt).length ≤ 6000005 := by
          have := repF_len 4 (k + 1) (wantC D roots k s) s.cnt
          rw [List.length_append]; omega
        generalize hlC : lD ++ repF 4 (k + 1) (wantC D roots k s) s.cnt = lC at *
        have hE0 := hE
        obtain ⟨hdb, hoc, hea, hma, hla, hha, ho, hxE, hlo, hlw, hl5⟩ := hE0
        clear hE13
        cases hp : P k with
        | true =>
          rw [hp] at hcM
          repeat (first | refine sp ?_ | (refine is_load ?_; refine ld ?_) | (refine is_store ?_; refine sr ?_) | (refine is_alloc ?_; refine al ?_) | (refine is_box ?_; refine bx ?_) | (refine isl_load ?_; refine ldl ?_) | (refine isl_store ?_; refine srl ?_) | (refine isl_alloc ?_; refine all' ?_) | (refine isl_box ?_; refine bxl ?_))
          exact go_stop (G := Nat × Value × List Fd) (k + 1, _, lC) rfl ⟨rfl, rfl, rfl, rfl, rfl, rfl, rfl, rfl, rfl, trivial⟩ ⟨hlt, by rw [hsucc, ← hlC, ← hlD, hlB, ← hlA]; simp [fdSlot, fdMid, fdLeak, fdFree_rep, fdSize_rep, fdCnt_rep, hon, hp], hE⟩ (by show D.slots.length - (k + 1) < D.slots.length - k; omega)
        | false =>
          rw [hp] at hcM
          unfold OwnF at ho
          obtain ⟨sv, cv, rfl, _, _⟩ := ho.slice
          repeat (first | refine sp ?_ | (refine is_load ?_; refine ld ?_) | (refine is_store ?_; refine sr ?_) | (refine is_alloc ?_; refine al ?_) | (refine is_box ?_; refine bx ?_) | (refine isl_load ?_; refine ldl ?_) | (refine isl_store ?_; refine srl ?_) | (refine isl_alloc ?_; refine all' ?_) | (refine isl_box ?_; refine bxl ?_))
          refine go_pushG (l := [.int .i64 5, .int .u32 ((k + 1 : Nat) : Int), .int .i64 0, .int .i64 0]) (by decide) rfl rfl rfl rfl ho rfl (fd_one ⟨5, k + 1, 0, 0⟩) (by omega) (by simp [maxLen]; omega) (by omega) (by omega) ?_
          intro vv ww hoo hgg _
          obtain ⟨hoc1, hE1, hkp⟩ := hE.push (f := ⟨5, k + 1, 0, 0⟩) hoo hgg
          obtain ⟨s3, c3, rfl, _, _⟩ := Own.slice hoo
          repeat (first | refine sp ?_ | (refine is_load ?_; refine ld ?_) | (refine is_store ?_; refine sr ?_) | (refine is_alloc ?_; refine al ?_) | (refine is_box ?_; refine bx ?_) | (refine isl_load ?_; refine ldl ?_) | (refine isl_store ?_; refine srl ?_) | (refine isl_alloc ?_; refine all' ?_) | (refine isl_box ?_; refine bxl ?_))
          exact go_stop (G := Nat × Value × List Fd) (k + 1, _, _) rfl ⟨rfl, rfl, rfl, rfl, rfl, rfl, rfl, rfl, rfl, trivial⟩ ⟨hlt, by rw [hsucc, ← hlC, ← hlD, hlB, ← hlA]; simp [fdSlot, fdMid, fdLeak, fdFree_rep, fdSize_rep, fdCnt_rep, hon, hp], hE1⟩ (by show D.slots.length - (k + 1) < D.slots.length - k; omega)
  · obtain rfl : k = D.slots.length := by omega
    have hll : (fdSlots D roots P D.slots.length).length ≤ 6000000 := by have := fdSlots_len D roots P D.slots.length; omega
    rw [← hl] at hll
    have hE0 := hE
    obtain ⟨hdb, hoc, hea, hma, hla, hha, ho, hxE, hlo, hlw, hl5⟩ := hE0
    repeat (first | refine sp ?_ | (refine is_load ?_; refine ld ?_) | (refine is_store ?_; refine sr ?_) | (refine is_alloc ?_; refine al ?_) | (refine is_box ?_; refine bx ?_) | (refine isl_load ?_; refine ldl ?_) | (refine isl_store ?_; refine srl ?_) | (refine isl_alloc ?_; refine all' ?_) | (refine isl_box ?_; refine bxl ?_))
    refine go_loop (G := Nat × Value × List Fd) [125] (fun ⟨j, _, _⟩ => [.int .i64 (j : Int)]) [(1, .slice sa roots.length cap), (2, ptr w.heap.size), (5, ptr b5), (123, .slice s2 D.free.length c2), (124, .int .i64 (D.free.length : Int))]
      (fun ⟨j, v, l'⟩ w' => j ≤ D.free.length ∧ l' = l ++ (D.free.take j).flatMap (fdRange D) ∧ CkA w w' D roots P s1 s2 c1 c2 w.heap.size b5 eb mb lb hb lo v l') (fun g => D.free.length - g.1) (0, _, l) rfl ⟨rfl, rfl, rfl, rfl, rfl, trivial⟩ ⟨by omega, by simp, hE⟩ ?_
    clear hE
    clear hdb hoc hea hma hla hha ho hxE
    rintro ⟨j, v, l1⟩ w7 ⟨hj, hl1, hE⟩
    have hl1l : l1.length ≤ 7000000 := by
      have := flatMap_le (fdRange D) 1 (fun _ => ite_le2) (D.free.take j)
      rw [List.length_take] at this
      rw [hl1, List.length_append]; omega
    have hE0 := hE
    obtain ⟨hdb, hoc, hea, hma, hla, hha, ho, hxE, hlo, hlw, hl5⟩ := hE0
    by_cases hlt : j < D.free.length
    · obtain ⟨b, o, e, hbl, hcell⟩ := (hf'.ext hE.ext).at (m := 1) (fun _ => rfl) (by omega) hlt
      subst e
      have hfb := hok.fr _ (List.getElem_mem hlt)
      have hts : (D.free.take (j + 1)).flatMap (fdRange D) = (D.free.take j).flatMap (fdRange D) ++ fdRange D D.free[j] := by
        rw [List.take_succ_eq_append_getElem hlt, List.flatMap_append]; congr 1; simp only [List.flatMap_cons, List.flatMap_nil, List.append_nil]
      have e0 : w7.cell? ⟨b, o + j, none⟩ = some (.int .u32 (D.free[j] : Int)) := by have := hcell 0 (.int .u32 (D.free[j] : Int)) rfl; simpa using this
      generalize D.free[j] = x at *
      repeat (first | refine sp ?_ | (refine is_load ?_; refine ld ?_) | (refine is_store ?_; refine sr ?_) | (refine is_alloc ?_; refine al ?_) | (refine is_box ?_; refine bx ?_) | (refine isl_load ?_; refine ldl ?_) | (refine isl_store ?_; refine srl ?_) | (refine isl_alloc ?_; refine all' ?_) | (refine isl_box ?_; refine bxl ?_))
      refine go_call rfl rfl (a_slot w7 lo0 _ D x (hd0.ext hE.ext) (by omega) hfb) ?_
      clear hdb hoc hea hma hla hha ho hxE
      rintro _ w8 ⟨rfl, hx8⟩
      replace hE := hE.ex hx8
      have hE0 := hE
      obtain ⟨hdb, hoc, hea, hma, hla, hha, ho, hxE, hlo, hlw, hl5⟩ := hE0
      by_cases h1 : x = 0 ∨ D.slots.length < x
      · have ef : fdRange D x = [⟨6, x, 0, 0⟩] := by unfold fdRange; rw [if_pos h1]
        rw [show slotB D x = false from decide_eq_false (by omega)]
        unfold OwnF at ho
        obtain ⟨sv, cv, rfl, _, _⟩ := ho.slice
        repeat (first | refine sp ?_ | (refine is_load ?_; refine ld ?_) | (refine is_store ?_; refine sr ?_) | (refine is_alloc ?_; refine al ?_) | (refine is_box ?_; refine bx ?_) | (refine isl_load ?_; refine ldl ?_) | (refine isl_store ?_; refine srl ?_) | (refine isl_alloc ?_; refine all' ?_) | (refine isl_box ?_; refine bxl ?_))
        refine go_pushG (l := [.int .i64 6, .int .u32 (x : Int), .int .i64 0, .int .i64 0]) (by decide) rfl rfl rfl rfl ho rfl (fd_one ⟨6, x, 0, 0⟩) (by omega) (by simp [maxLen]; omega) (by omega) (by omega) ?_
        intro vv ww hoo hgg _
        obtain ⟨hoc1, hE1, hkp⟩ := hE.push (f := ⟨6, x, 0, 0⟩) hoo hgg
        obtain ⟨s3, c3, rfl, _, _⟩ := Own.slice hoo
        repeat (first | refine sp ?_ | (refine is_load ?_; refine ld ?_) | (refine is_store ?_; refine sr ?_) | (refine is_alloc ?_; refine al ?_) | (refine is_box ?_; refine bx ?_) | (refine isl_load ?_; refine ldl ?_) | (refine isl_store ?_; refine srl ?_) | (refine isl_alloc ?_; refine all' ?_) | (refine isl_box ?_; refine bxl ?_))
        exact go_stop (G := Nat × Value × List Fd) (j + 1, _, _) rfl ⟨rfl, rfl, rfl, rfl, rfl, trivial⟩ ⟨hlt, by rw [hts, ef, hl1, List.append_assoc], hE1⟩ (by show D.free.length - (j + 1) < D.free.length - j; omega)
      · have ef : fdRange D x = [] := by unfold fdRange; rw [if_neg h1]
        rw [show slotB D x = true from decide_eq_true (by omega)]
        repeat (first | refine sp ?_ | (refine is_load ?_; refine ld ?_) | (refine is_store ?_; refine sr ?_) | (refine is_alloc ?_; refine al ?_) | (refine is_box ?_; refine bx ?_) | (refine isl_load ?_; refine ldl ?_) | (refine isl_store ?_; refine srl ?_) | (refine isl_alloc ?_; refine all' ?_) | (refine isl_box ?_; refine bxl ?_))
        exact go_stop (G := Nat × Value × List Fd) (j + 1, _, l1) rfl ⟨rfl, rfl, rfl, rfl, rfl, trivial⟩ ⟨hlt, by rw [hts, ef, hl1, List.append_nil], hE⟩ (by show D.free.length - (j + 1) < D.free.length - j; omega)
    obtain rfl : j = D.free.length := by omega
    rw [List.take_length] at hl1
    repeat (first | refine sp ?_ | (refine is_load ?_; refine ld ?_) | (refine is_store ?_; refine sr ?_) | (refine is_alloc ?_; refine al ?_) | (refine is_box ?_; refine bx ?_) | (refine isl_load ?_; refine ldl ?_) | (refine isl_store ?_; refine srl ?_) | (refine isl_alloc ?_; refine all' ?_) | (refine isl_box ?_; refine bxl ?_))
    refine go_loop (G := Nat × Value × List Fd) [141] (fun ⟨j, _, _⟩ => [.int .i64 (j : Int)]) [(2, ptr w.heap.size), (5, ptr b5), (139, .slice sa roots.length cap), (140, .int .i64 (roots.length : Int))]
      (fun ⟨j, v, l'⟩ w' => j ≤ roots.length ∧ l' = l1 ++ (roots.take j).flatMap (fdRoot D) ∧ CkA w w' D roots P s1 s2 c1 c2 w.heap.size b5 eb mb lb hb lo v l') (fun g => roots.length - g.1) (0, _, l1) rfl ⟨rfl, rfl, rfl, rfl, trivial⟩ ⟨by omega, by simp, hE⟩ ?_
    clear hE
    clear hdb hoc hea hma hla hha ho hxE
    rintro ⟨j, v, l2⟩ w8 ⟨hj, hl2, hE⟩
    have hl2l : l2.length ≤ 8000000 := by
      have := flatMap_le (fdRoot D) 1 (fun _ => ite_le2) (roots.take j)
      rw [List.length_take] at this
      rw [hl2, List.length_append]; omega
    have hE0 := hE
    obtain ⟨hdb, hoc, hea, hma, hla, hha, ho, hxE, hlo, hlw, hl5⟩ := hE0
    by_cases hlt : j < roots.length
    · obtain ⟨b, o, e, hbl, hcell⟩ := (hr'.ext hE.ext).at (m := 1) (fun _ => rfl) (by omega) hlt
      subst e
      have hfb := hrb _ (List.getElem_mem hlt)
      have hts : (roots.take (j + 1)).flatMap (fdRoot D) = (roots.take j).flatMap (fdRoot D) ++ fdRoot D roots[j] := by
        rw [List.take_succ_eq_append_getElem hlt, List.flatMap_append]; congr 1; simp only [List.flatMap_cons, List.flatMap_nil, List.append_nil]
      have e0 : w8.cell? ⟨b, o + j, none⟩ = some (.int .u32 (roots[j] : Int)) := by have := hcell 0 (.int .u32 (roots[j] : Int)) rfl; simpa using this
      generalize roots[j] = x at *
      by_cases h0 : x = 0
      · have ef : fdRoot D x = [] := by unfold fdRoot; rw [if_neg (fun h => h.1 h0)]
        repeat (first | refine sp ?_ | (refine is_load ?_; refine ld ?_) | (refine is_store ?_; refine sr ?_) | (refine is_alloc ?_; refine al ?_) | (refine is_box ?_; refine bx ?_) | (refine isl_load ?_; refine ldl ?_) | (refine isl_store ?_; refine srl ?_) | (refine isl_alloc ?_; refine all' ?_) | (refine isl_box ?_; refine bxl ?_))
        exact go_stop (G := Nat × Value × List Fd) (j + 1, _, l2) rfl ⟨rfl, rfl, rfl, rfl, trivial⟩ ⟨hlt, by rw [hts, ef, hl2, List.append_nil], hE⟩ (by show roots.length - (j + 1) < roots.length - j; omega)
      repeat (first | refine sp ?_ | (refine is_load ?_; refine ld ?_) | (refine is_store ?_; refine sr ?_) | (refine is_alloc ?_; refine al ?_) | (refine is_box ?_; refine bx ?_) | (refine isl_load ?_; refine ldl ?_) | (refine isl_store ?_; refine srl ?_) | (refine isl_alloc ?_; refine all' ?_) | (refine isl_box ?_; refine bxl ?_))
      refine go_call rfl rfl (a_allocated w8 lo0 _ D x (hd0.ext hE.ext) (by omega) hfb) ?_
      clear hdb hoc hea hma hla hha ho hxE
      rintro _ w9 ⟨rfl, hx9⟩
      replace hE := hE.ex hx9
      have hE0 := hE
      obtain ⟨hdb, hoc, hea, hma, hla, hha, ho, hxE, hlo, hlw, hl5⟩ := hE0
      cases hal : D.al x with
      | true =>
        have ef : fdRoot D x = [] := by unfold fdRoot; rw [if_neg (fun h => by rw [hal] at h; cases h.2)]
        repeat (first | refine sp ?_ | (refine is_load ?_; refine ld ?_) | (refine is_store ?_; refine sr ?_) | (refine is_alloc ?_; refine al ?_) | (refine is_box ?_; refine bx ?_) | (refine isl_load ?_; refine ldl ?_) | (refine isl_store ?_; refine srl ?_) | (refine isl_alloc ?_; refine all' ?_) | (refine isl_box ?_; refine bxl ?_))
        exact go_stop (G := Nat × Value × List Fd) (j + 1, _, l2) rfl ⟨rfl, rfl, rfl, rfl, trivial⟩ ⟨hlt, by rw [hts, ef, hl2, List.append_nil], hE⟩ (by show roots.length - (j + 1) < roots.length - j; omega)
      | false =>
        have ef : fdRoot D x = [⟨7, x, 0, 0⟩] := by unfold fdRoot; rw [if_pos ⟨h0, hal⟩]
        unfold OwnF at ho
        obtain ⟨sv, cv, rfl, _, _⟩ := ho.slice
        repeat (first | refine sp ?_ | (refine is_load ?_; refine ld ?_) | (refine is_store ?_; refine sr ?_) | (refine is_alloc ?_; refine al ?_) | (refine is_box ?_; refine bx ?_) | (refine isl_load ?_; refine ldl ?_) | (refine isl_store ?_; refine srl ?_) | (refine isl_alloc ?_; refine all' ?_) | (refine isl_box ?_; refine bxl ?_))
        refine go_pushG (l := [.int .i64 7, .int .u32 (x : Int), .int .i64 0, .int .i64 0]) (by decide) rfl rfl rfl rfl ho rfl (fd_one ⟨7, x, 0, 0⟩) (by omega) (by simp [maxLen]; omega) (by omega) (by omega) ?_
        intro vv ww hoo hgg _
        obtain ⟨hoc1, hE1, hkp⟩ := hE.push (f := ⟨7, x, 0, 0⟩) hoo hgg
        obtain ⟨s3, c3, rfl, _, _⟩ := Own.slice hoo
        repeat (first | refine sp ?_ | (refine is_load ?_; refine ld ?_) | (refine is_store ?_; refine sr ?_) | (refine is_alloc ?_; refine al ?_) | (refine is_box ?_; refine bx ?_) | (refine isl_load ?_; refine ldl ?_) | (refine isl_store ?_; refine srl ?_) | (refine isl_alloc ?_; refine all' ?_) | (refine isl_box ?_; refine bxl ?_))
        exact go_stop (G := Nat × Value × List Fd) (j + 1, _, _) rfl ⟨rfl, rfl, rfl, rfl, trivial⟩ ⟨hlt, by rw [hts, ef, hl2, List.append_assoc], hE1⟩ (by show roots.length - (j + 1) < roots.length - j; omega)
    obtain rfl : j = roots.length := by omega
    rw [List.take_length] at hl2
    repeat (first | refine sp ?_ | (refine is_load ?_; refine ld ?_) | (refine is_store ?_; refine sr ?_) | (refine is_alloc ?_; refine al ?_) | (refine is_box ?_; refine bx ?_) | (refine isl_load ?_; refine ldl ?_) | (refine isl_store ?_; refine srl ?_) | (refine isl_alloc ?_; refine all' ?_) | (refine isl_box ?_; refine bxl ?_))
    exact go_ret1 rfl rfl ⟨_, rfl, P, lo, hlo, by rw [show finds D roots P = l2 by rw [hl2, hl1, hl]; rfl]; exact ho, hP, hxE⟩

end Go.Proofs.Ytapocbahkeoeoaa
