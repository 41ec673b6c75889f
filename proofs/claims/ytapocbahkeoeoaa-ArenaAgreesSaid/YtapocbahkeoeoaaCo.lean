/-
  The reference's audit of a dump: the findings.
-/
import Derived.Test.YtapocbahkeoeoaaCn
set_option linter.unusedVariables false
namespace Go.Proofs.Ytapocbahkeoeoaa
open Go.Vc

structure Fd where
  kind : Int
  slot : Nat
  want : Int
  have_ : Int
def Fd.cells (f : Fd) : List Value := [.int .i64 f.kind, .int .u32 (f.slot : Int), .int .i64 f.want, .int .i64 f.have_]
theorem fd_len (f : Fd) : f.cells.length = 4 := rfl
theorem fd_one (f : Fd) : ∀ u ∈ f.cells, u.oneCell' = true := by
  intro u hu
  simp only [Fd.cells, List.mem_cons, List.not_mem_nil, or_false] at hu
  rcases hu with rfl | rfl | rfl | rfl <;> rfl

def OwnF (w : World) (lo : Nat) (v : Value) (l : List Fd) : Prop := Own w lo 45 4 v l.length (l.flatMap Fd.cells)

def Dp.szAt (D : Dp) : Nat → Int
  | 0 => 0
  | j + 1 => match D.slots[j]? with
    | some s => s.nd.size
    | none => 0
def szAdd (D : Dp) (z : Int) (c : Nat) : Int := if D.al c = true then w64 (z + D.szAt c) else z
def fdKid (D : Dp) (i c : Nat) : List Fd := if D.al c = true then [] else if c = 0 then [] else [⟨2, i, 0, (c : Int)⟩]
def szK (D : Dp) (s : Slt) (k : Nat) : Int := (s.kd.take k).foldl (szAdd D) 1
def fdK (D : Dp) (i : Nat) (s : Slt) (k : Nat) : List Fd := (s.kd.take k).flatMap (fdKid D i)
def fdFree (D : Dp) (n : Nat) (s : Slt) : List Fd :=
  if (D.free.count (n + 1) : Int) = (if s.on = true then 0 else 1) then [] else [⟨1, n + 1, if s.on = true then 0 else 1, (D.free.count (n + 1) : Int)⟩]
def fdSize (D : Dp) (n : Nat) (s : Slt) : List Fd := if szK D s 2 = s.nd.size then [] else [⟨3, n + 1, szK D s 2, s.nd.size⟩]
def wantC (D : Dp) (roots : List Nat) (n : Nat) (s : Slt) : Int := if s.on = true then ((kdsF D.slots).count (n + 1) : Int) + (roots.count (n + 1) : Int) else 0
def fdCnt (D : Dp) (roots : List Nat) (n : Nat) (s : Slt) : List Fd := if wantC D roots n s = s.cnt then [] else [⟨4, n + 1, wantC D roots n s, s.cnt⟩]
def fdLeak (P : Nat → Bool) (n : Nat) (s : Slt) : List Fd := if s.on = true ∧ P n = false then [⟨5, n + 1, 0, 0⟩] else []
def fdMid (D : Dp) (n : Nat) (s : Slt) : List Fd := if s.on = true then fdK D (n + 1) s 2 ++ fdSize D n s else []
def fdSlot (D : Dp) (roots : List Nat) (P : Nat → Bool) (n : Nat) (s : Slt) : List Fd := fdFree D n s ++ fdMid D n s ++ fdCnt D roots n s ++ fdLeak P n s
def fdRange (D : Dp) (i : Nat) : List Fd := if i = 0 ∨ D.slots.length < i then [⟨6, i, 0, 0⟩] else []
def fdRoot (D : Dp) (r : Nat) : List Fd := if r ≠ 0 ∧ D.al r = false then [⟨7, r, 0, 0⟩] else []
def fdSlots (D : Dp) (roots : List Nat) (P : Nat → Bool) (k : Nat) : List Fd := (List.range k).flatMap fun j => match D.slots[j]? with
  | some s => fdSlot D roots P j s
  | none => []
/-- The findings of a dump. -/
def finds (D : Dp) (roots : List Nat) (P : Nat → Bool) : List Fd := fdSlots D roots P D.slots.length ++ D.free.flatMap (fdRange D) ++ roots.flatMap (fdRoot D)

theorem ite_le1 {c : Prop} [Decidable c] {f : Fd} : (if c then [] else [f]).length ≤ 1 := by
  split
  · exact Nat.zero_le _
  · exact Nat.le_refl _
theorem ite_le2 {c : Prop} [Decidable c] {f : Fd} : (if c then [f] else []).length ≤ 1 := by
  split
  · exact Nat.le_refl _
  · exact Nat.zero_le _
theorem fdKid_len (D : Dp) (n c : Nat) : (fdKid D n c).length ≤ 1 := by
  unfold fdKid
  split
  · exact Nat.zero_le _
  · exact ite_le1
theorem fdK_len (D : Dp) (n : Nat) (s : Slt) : (fdK D n s 2).length ≤ 2 := by
  have := fdKid_len D n s.nd.left
  have := fdKid_len D n s.nd.right
  simp only [fdK, Slt.kd, List.take, List.flatMap_cons, List.flatMap_nil, List.length_append, List.append_nil]
  omega
theorem fdFree_len (D : Dp) (n : Nat) (s : Slt) : (fdFree D n s).length ≤ 1 := ite_le1
theorem fdSize_len (D : Dp) (n : Nat) (s : Slt) : (fdSize D n s).length ≤ 1 := ite_le1
theorem fdCnt_len (D : Dp) (roots : List Nat) (n : Nat) (s : Slt) : (fdCnt D roots n s).length ≤ 1 := ite_le1
theorem fdSlot_len (D : Dp) (roots : List Nat) (P : Nat → Bool) (n : Nat) (s : Slt) : (fdSlot D roots P n s).length ≤ 6 := by
  have h1 := fdFree_len D n s
  have h2 : (fdMid D n s).length ≤ 3 := by
    have := fdK_len D (n + 1) s
    have := fdSize_len D n s
    unfold fdMid
    split
    · rw [List.length_append]; omega
    · exact Nat.zero_le _
  have h4 := fdCnt_len D roots n s
  have h5 : (fdLeak P n s).length ≤ 1 := ite_le2
  unfold fdSlot
  simp only [List.length_append]
  omega
theorem flatMap_le {α β : Type} (f : α → List β) (m : Nat) (h : ∀ a, (f a).length ≤ m) : ∀ l : List α, (l.flatMap f).length ≤ m * l.length
  | [] => by simp
  | a :: l => by
    have := flatMap_le f m h l
    have := h a
    rw [List.flatMap_cons, List.length_append, List.length_cons, Nat.mul_succ]; omega
theorem fdSlots_len (D : Dp) (roots : List Nat) (P : Nat → Bool) (k : Nat) : (fdSlots D roots P k).length ≤ 6 * k := by
  have := flatMap_le (fun j => match D.slots[j]? with
    | some s => fdSlot D roots P j s
    | none => []) 6 (fun j => by
      split
      · exact fdSlot_len _ _ _ _ _
      · exact Nat.zero_le _) (List.range k)
  rw [List.length_range] at this
  exact this
theorem fdSlots_succ {D : Dp} {roots : List Nat} {P : Nat → Bool} {k : Nat} {s : Slt} (h : D.slots[k]? = some s) : fdSlots D roots P (k + 1) = fdSlots D roots P k ++ fdSlot D roots P k s := by
  unfold fdSlots
  rw [List.range_succ, List.flatMap_append]
  congr 1
  simp only [List.flatMap_cons, List.flatMap_nil, List.append_nil, h]

/-- What stays while the findings are written. -/
structure CkE (w0 w : World) (D : Dp) (roots : List Nat) (P : Nat → Bool) (s1 s2 : Option Addr) (c1 c2 eb mb lb hb lo : Nat) (v : Value) (l : List Fd) : Prop where
  db : At w w0.heap.size [.slice s1 D.slots.length c1, .slice s2 D.free.length c2] 36
  e : At w eb (cellsF (fun j => [.int .i64 ((kdsF D.slots).count (j + 1) : Int)]) D.slots.length) 3
  m : At w mb (cellsF (fun j => [.bool (P j)]) D.slots.length) 4
  li : At w lb (cellsF (fun j => [.int .i64 (D.free.count (j + 1) : Int)]) D.slots.length) 3
  he : At w hb (cellsF (fun j => [.int .i64 (roots.count (j + 1) : Int)]) D.slots.length) 3
  out : OwnF w lo v l
  ext : Ext w0 w
  lo' : w0.heap.size ≤ lo
  lw : lo ≤ w.heap.size

theorem CkE.ex {w0 w w' : World} {D : Dp} {roots : List Nat} {P : Nat → Bool} {s1 s2 : Option Addr} {c1 c2 eb mb lb hb lo : Nat} {v : Value} {l : List Fd} (h : CkE w0 w D roots P s1 s2 c1 c2 eb mb lb hb lo v l) (f : Ext w w') : CkE w0 w' D roots P s1 s2 c1 c2 eb mb lb hb lo v l :=
  ⟨h.db.ext f, h.e.ext f, h.m.ext f, h.li.ext f, h.he.ext f, Own.ext h.out f, h.ext.trans f, h.lo', Nat.le_trans h.lw f.size⟩
theorem OwnF.nec {w : World} {lo b : Nat} {v : Value} {l : List Fd} {C : List Value} {T : TypeId} (h : OwnF w lo v l) (hb : At w b C T) (hT : T ≠ 45) : v.ownBlock ≠ some b := by
  intro e
  obtain ⟨_, C', hat⟩ := Own.block_lt h e
  exact hb.ne hat hT rfl
theorem CkE.push {w0 w w' : World} {D : Dp} {roots : List Nat} {P : Nat → Bool} {s1 s2 : Option Addr} {c1 c2 eb mb lb hb lo : Nat} {v v' : Value} {l : List Fd} (h : CkE w0 w D roots P s1 s2 c1 c2 eb mb lb hb lo v l) {f : Fd}
    (ho : Own w' lo 45 4 v' (l.length + 1) (l.flatMap Fd.cells ++ f.cells)) (hg : w.grownBy w' v.ownBlock) : CkE w0 w' D roots P s1 s2 c1 c2 eb mb lb hb lo v' (l ++ [f]) := by
  have hf := Fr.of_grown hg
  refine ⟨h.db.fr hf (h.out.nec h.db (by decide)), h.e.fr hf (h.out.nec h.e (by decide)), h.m.fr hf (h.out.nec h.m (by decide)), h.li.fr hf (h.out.nec h.li (by decide)), h.he.fr hf (h.out.nec h.he (by decide)), ?_, ext_grown h.ext h.lo' h.out hg, h.lo', Nat.le_trans h.lw hg.size⟩
  unfold OwnF
  rw [List.length_append, List.flatMap_append]
  simpa using ho

set_option maxHeartbeats 20000000 in
theorem c_Check (w : World) (lo0 hi : Nat) (v rv : Value) (D : Dp) (roots : List Nat) (hd : DpAt w lo0 v D) (hok : D.Ok) (hr : RdU w hi rv u32c roots) (hh : hi ≤ w.heap.size) (hrl : roots.length ≤ 1000000) (hrb : ∀ x ∈ roots, x < 4294967296) :
    Calls Try.prog 30 [v, rv].toArray w (Ret fun r w' => ∃ P lo, w.heap.size ≤ lo ∧ OwnF w' lo r (finds D roots P) ∧ Marks D roots P ∧ Ext w w') := by
  have hln := hok.len
  have hfl := hok.flen
  have hd0 := hd
  obtain ⟨sv, fv, rfl, hs, hf⟩ := hd
  have hs' := hs.up
  have hf' := hf.up
  obtain ⟨s1, c1, rfl, h1, _, _⟩ := hs
  obtain ⟨s2, c2, rfl, h2, _, _⟩ := hf
  have hr' := hr
  obtain ⟨sa, cap, rfl, hlc, hrc, _⟩ := hr
  refine calls_go Try.func30 rfl Try.ntmps30 (Nat.le_of_ble_eq_true rfl) ?_
  repeat (first | refine sp ?_ | (refine is_load ?_; refine ld ?_) | (refine is_store ?_; refine sr ?_) | (refine is_alloc ?_; refine al ?_) | (refine is_box ?_; refine bx ?_) | (refine isl_load ?_; refine ldl ?_) | (refine isl_store ?_; refine srl ?_) | (refine isl_alloc ?_; refine all' ?_) | (refine isl_box ?_; refine bxl ?_))
  refine go_name (F := fun w1 => At w1 w.heap.size [.slice s1 D.slots.length c1, .slice s2 D.free.length c2] 36 ∧ Ext w w1) ⟨by (repeat (first | assumption | (refine At.new' (by (first | omega | (simp; done) | (simp; omega))) _ _) | apply At.alloc | apply At.drewN | apply At.setRow | (apply At.setRow_neF; first | assumption | (apply Ne.symm; assumption) | omega) | (apply At.extF; assumption))), by (repeat (first | exact Fr.refl _ _ | assumption | apply Fr.drewN | apply Fr.alloc | (apply Fr.transF; assumption) | (refine Fr.setRow ?_ _ (by first | exact Or.inr (by (first | omega | (simp; done) | (simp; omega))) | (exact Or.inl (by first | assumption | (simp; done)))))))⟩ ?_
  rintro w1 ⟨hdb, hx1⟩
  refine go_drawE (Fr (fun _ => False) w1) 0 Try.follows (by kernel_rfl) (by kernel_rfl) (by kernel_rfl) ((Fr.refl _ _).drewN 1) ?_
  repeat (first | refine sp ?_ | (refine is_load ?_; refine ld ?_) | (refine is_store ?_; refine sr ?_) | (refine is_alloc ?_; refine al ?_) | (refine is_box ?_; refine bx ?_) | (refine isl_load ?_; refine ldl ?_) | (refine isl_store ?_; refine srl ?_) | (refine isl_alloc ?_; refine all' ?_) | (refine isl_box ?_; refine bxl ?_))
  refine gol_call rfl rfl (c_InEdges _ lo0 _ D (hd0.ext (by (repeat (first | exact Fr.refl _ _ | assumption | apply Fr.drewN | apply Fr.alloc | (apply Fr.transF; assumption) | (refine Fr.setRow ?_ _ (by first | exact Or.inr (by (first | omega | (simp; done) | (simp; omega))) | (exact Or.inl (by first | assumption | (simp; done))))))))) hok) ?_
  rintro ev w2 ⟨hev, hx2⟩
  have hx2' : Ext w1 w2 := Fr.trans ((Fr.refl _ _).drewN 1) hx2
  refine ⟨hx2', ?_⟩
  repeat (first | refine sp ?_ | (refine is_load ?_; refine ld ?_) | (refine is_store ?_; refine sr ?_) | (refine is_alloc ?_; refine al ?_) | (refine is_box ?_; refine bx ?_) | (refine isl_load ?_; refine ldl ?_) | (refine isl_store ?_; refine srl ?_) | (refine isl_alloc ?_; refine all' ?_) | (refine isl_box ?_; refine bxl ?_))
  have hx2w := hx1.trans hx2'
  refine gol_call rfl rfl (c_marks w2 lo0 hi _ _ D roots (hd0.ext hx2w) hok (hr'.ext hx2w) (Nat.le_trans hh hx2w.size) hrl hrb) ?_
  rintro mv w3 ⟨P, hmv, hP, hx3⟩
  refine ⟨hx2'.trans hx3, ?_⟩
  have hx3' := hx2'.trans hx3
  have hx3w := hx1.trans hx3'
  replace hdb := hdb.ext hx3'
  replace hev := hev.ext hx3
  repeat (first | refine sp ?_ | (refine is_load ?_; refine ld ?_) | (refine is_store ?_; refine sr ?_) | (refine is_alloc ?_; refine al ?_) | (refine is_box ?_; refine bx ?_) | (refine isl_load ?_; refine ldl ?_) | (refine isl_store ?_; refine srl ?_) | (refine isl_alloc ?_; refine all' ?_) | (refine isl_box ?_; refine bxl ?_))
  refine go_drawE (Fr (fun _ => False) w3) 0 Try.follows (by kernel_rfl) (by kernel_rfl) (by kernel_rfl) ((Fr.refl _ _).drewN 1) ?_
  repeat (first | refine sp ?_ | (refine is_load ?_; refine ld ?_) | (refine is_store ?_; refine sr ?_) | (refine is_alloc ?_; refine al ?_) | (refine is_box ?_; refine bx ?_) | (refine isl_load ?_; refine ldl ?_) | (refine isl_store ?_; refine srl ?_) | (refine isl_alloc ?_; refine all' ?_) | (refine isl_box ?_; refine bxl ?_))
  refine gol_call rfl rfl (c_counts _ w.heap.size _ D.free D.slots.length (hf'.ext (hx3w.trans (by (repeat (first | exact Fr.refl _ _ | assumption | apply Fr.drewN | apply Fr.alloc | (apply Fr.transF; assumption) | (refine Fr.setRow ?_ _ (by first | exact Or.inr (by (first | omega | (simp; done) | (simp; omega))) | (exact Or.inl (by first | assumption | (simp; done)))))))))) (by have := hx3w.size; simp; omega) hfl hln hok.fr) ?_
  rintro lv w4 ⟨hlv, hx4⟩
  have hx4' : Ext w3 w4 := Fr.trans ((Fr.refl _ _).drewN 1) hx4
  refine ⟨hx4', ?_⟩
  repeat (first | refine sp ?_ | (refine is_load ?_; refine ld ?_) | (refine is_store ?_; refine sr ?_) | (refine is_alloc ?_; refine al ?_) | (refine is_box ?_; refine bx ?_) | (refine isl_load ?_; refine ldl ?_) | (refine isl_store ?_; refine srl ?_) | (refine isl_alloc ?_; refine all' ?_) | (refine isl_box ?_; refine bxl ?_))
  have hx4w := hx3w.trans hx4'
  refine gol_call rfl rfl (c_counts w4 hi _ roots D.slots.length (hr'.ext hx4w) (Nat.le_trans hh hx4w.size) hrl hln hrb) ?_
  rintro hv w5 ⟨hhv, hx5⟩
  refine ⟨hx4'.trans hx5, ?_⟩
  have hx5' := hx4'.trans hx5
  have hx5w := hx3w.trans hx5'
  replace hdb := hdb.ext hx5'
  replace hev := hev.ext hx5'
  replace hmv := hmv.ext hx5'
  replace hlv := hlv.ext hx5
  obtain ⟨eb, rfl, heb, hea⟩ := hev
  obtain ⟨mb, rfl, hmb, hma⟩ := hmv
  obtain ⟨lb, rfl, hlb, hla⟩ := hlv
  obtain ⟨hb, rfl, hhb, hha⟩ := hhv
  have hE0 : CkE w w5 D roots P s1 s2 c1 c2 eb mb lb hb w5.heap.size (.slice none 0 0) [] := ⟨hdb, hea, hma, hla, hha, Own.nil _ _ _ _, hx5w, hx5w.size, Nat.le_refl _⟩
  generalize w5.heap.size = lo at hE0
  clear hdb hea hma hla hha heb hmb hlb hhb
  repeat (first | refine sp ?_ | (refine is_load ?_; refine ld ?_) | (refine is_store ?_; refine sr ?_) | (refine is_alloc ?_; refine al ?_) | (refine is_box ?_; refine bx ?_) | (refine isl_load ?_; refine ldl ?_) | (refine isl_store ?_; refine srl ?_) | (refine isl_alloc ?_; refine all' ?_) | (refine isl_box ?_; refine bxl ?_))
  refine go_loop (G := Nat × Value × List Fd) [10, 5] (fun ⟨k, v, _⟩ => [.int .i64 (k : Int), v]) [(1, .slice sa roots.length cap), (2, ptr w.heap.size), (6, .slice (some ⟨eb, 0, none⟩) D.slots.length D.slots.length), (7, .slice (some ⟨mb, 0, none⟩) D.slots.length D.slots.length), (8, .slice (some ⟨lb, 0, none⟩) D.slots.length D.slots.length), (9, .slice (some ⟨hb, 0, none⟩) D.slots.length D.slots.length)]
    (fun ⟨k, v, l⟩ w' => k ≤ D.slots.length ∧ l = fdSlots D roots P k ∧ CkE w w' D roots P s1 s2 c1 c2 eb mb lb hb lo v l) (fun g => D.slots.length - g.1) (0, .slice none 0 0, []) rfl ⟨rfl, rfl, rfl, rfl, rfl, rfl, trivial⟩ ⟨by omega, rfl, hE0⟩ ?_
  clear hE0
  rintro ⟨k, v, l⟩ w6 ⟨hk, hl, hE⟩
  by_cases hlt : k < D.slots.length
  · have hsk : D.slots[k]? = some D.slots[k] := List.getElem?_eq_getElem hlt
    have hll : l.length ≤ 6000000 := by have := fdSlots_len D roots P k; rw [← hl] at this; omega
    have hsucc := fdSlots_succ (roots := roots) (P := P) hsk
    rw [← hl] at hsucc
    clear hl
    obtain ⟨b, o, e, hbl, hcell⟩ := (hs'.ext hE.ext).at (m := 11) slt_len (by omega) hlt
    subst e
    have hkid := hok.kid _ (List.getElem_mem hlt)
    have hcE : (cellsF (fun j => [Value.int .i64 ((kdsF D.slots).count (j + 1) : Int)]) D.slots.length)[0 + k]? = some (.int .i64 ((kdsF D.slots).count (k + 1) : Int)) := by
      rw [Nat.zero_add]; exact one_get (f := fun j => Value.int .i64 ((kdsF D.slots).count (j + 1) : Int)) hlt
    have hcM : (cellsF (fun j => [Value.bool (P j)]) D.slots.length)[0 + k]? = some (.bool (P k)) := by
      rw [Nat.zero_add]; exact one_get (f := fun j => Value.bool (P j)) hlt
    have hcL : (cellsF (fun j => [Value.int .i64 (D.free.count (j + 1) : Int)]) D.slots.length)[0 + k]? = some (.int .i64 (D.free.count (k + 1) : Int)) := by
      rw [Nat.zero_add]; exact one_get (f := fun j => Value.int .i64 (D.free.count (j + 1) : Int)) hlt
    have hcH : (cellsF (fun j => [Value.int .i64 (roots.count (j + 1) : Int)]) D.slots.length)[0 + k]? = some (.int .i64 (roots.count (k + 1) : Int)) := by
      rw [Nat.zero_add]; exact one_get (f := fun j => Value.int .i64 (roots.count (j + 1) : Int)) hlt
    have hb1 : (kdsF D.slots).count (k + 1) ≤ 2000000 := Nat.le_trans List.count_le_length (Nat.le_trans (kdsF_len _) (by omega))
    have hb2 : roots.count (k + 1) ≤ 1000000 := Nat.le_trans List.count_le_length hrl
    generalize D.slots[k] = s at *
    have hE0 := hE
    obtain ⟨hdb, hea, hma, hla, hha, ho, hxE, hlo, hlw⟩ := hE0
    unfold OwnF at ho
    obtain ⟨sv, cv, rfl, _, _⟩ := ho.slice
    repeat (first | refine sp ?_ | (refine is_load ?_; refine ld ?_) | (refine is_store ?_; refine sr ?_) | (refine is_alloc ?_; refine al ?_) | (refine is_box ?_; refine bx ?_) | (refine isl_load ?_; refine ldl ?_) | (refine isl_store ?_; refine srl ?_) | (refine isl_alloc ?_; refine all' ?_) | (refine isl_box ?_; refine bxl ?_))
    refine go_drawE (Fr (fun _ => False) w6) 0 Try.follows (by kernel_rfl) (by kernel_rfl) (by kernel_rfl) ((Fr.refl _ _).drewN 1) ?_
    repeat (first | refine sp ?_ | (refine is_load ?_; refine ld ?_) | (refine is_store ?_; refine sr ?_) | (refine is_alloc ?_; refine al ?_) | (refine is_box ?_; refine bx ?_) | (refine isl_load ?_; refine ldl ?_) | (refine isl_store ?_; refine srl ?_) | (refine isl_alloc ?_; refine all' ?_) | (refine isl_box ?_; refine bxl ?_))
    refine gol_load (v := .agg s.cells.toArray) rfl rfl (ldD_cells (m := 11) (w := w6) rfl (by decide) (fun j u hj => by rw [addr_add]; exact hcell j u hj) id) ?_
    unfold Slt.cells
    repeat (first | refine sp ?_ | (refine is_load ?_; refine ld ?_) | (refine is_store ?_; refine sr ?_) | (refine is_alloc ?_; refine al ?_) | (refine is_box ?_; refine bx ?_) | (refine isl_load ?_; refine ldl ?_) | (refine isl_store ?_; refine srl ?_) | (refine isl_alloc ?_; refine all' ?_) | (refine isl_box ?_; refine bxl ?_))
    refine go_name (F := fun w7 => At w7 w6.heap.size [.bool s.on, .int .i64 s.cnt, .int .u32 (s.gen : Int), .int .i64 s.nd.key, .int .i64 s.nd.val, .int .u32 (s.nd.left : Int), .int .u32 (s.nd.right : Int), .int .i64 s.nd.size, .int .i64 s.nd.sum, .int .i64 s.nd.mn, .int .i64 s.nd.mx] 52 ∧ Ext w6 w7) ⟨by (repeat (first | assumption | (refine At.new' (by (first | omega | (simp; done) | (simp; omega))) _ _) | apply At.alloc | apply At.drewN | apply At.setRow | (apply At.setRow_neF; first | assumption | (apply Ne.symm; assumption) | omega) | (apply At.extF; assumption))), by (repeat (first | exact Fr.refl _ _ | assumption | apply Fr.drewN | apply Fr.alloc | (apply Fr.transF; assumption) | (refine Fr.setRow ?_ _ (by first | exact Or.inr (by (first | omega | (simp; done) | (simp; omega))) | (exact Or.inl (by first | assumption | (simp; done)))))))⟩ ?_
    rintro w7 ⟨hsl, hx7⟩
    clear hdb hea hma hla hha ho hxE
    replace hE := hE.ex hx7
    generalize w6.heap.size = bs at hsl ⊢
    refine go_as 11 (u' := .int .u32 ((k + 1 : Nat) : Int)) rfl (by congr 1) ?_
    have hE0 := hE
    obtain ⟨hdb, hea, hma, hla, hha, ho, hxE, hlo, hlw⟩ := hE0
    unfold OwnF at ho
    cases hon : s.on with
    | false =>
      rw [hon] at hsl
      repeat (first | refine sp ?_ | (refine is_load ?_; refine ld ?_) | (refine is_store ?_; refine sr ?_) | (refine is_alloc ?_; refine al ?_) | (refine is_box ?_; refine bx ?_) | (refine isl_load ?_; refine ldl ?_) | (refine isl_store ?_; refine srl ?_) | (refine isl_alloc ?_; refine all' ?_) | (refine isl_box ?_; refine bxl ?_))
      refine go_cut (G := Value × List Fd) [5] (fun ⟨v, _⟩ => [v]) [(1, .slice sa roots.length cap), (2, ptr w.heap.size), (6, .slice (some ⟨eb, 0, none⟩) D.slots.length D.slots.length), (7, .slice (some ⟨mb, 0, none⟩) D.slots.length D.slots.length), (8, .slice (some ⟨lb, 0, none⟩) D.slots.length D.slots.length), (9, .slice (some ⟨hb, 0, none⟩) D.slots.length D.slots.length), (10, .int .i64 (k : Int)), (11, .int .u32 ((k + 1 : Nat) : Int)), (12, ptr bs), (13, .int .i64 1)]
        (fun ⟨v', l'⟩ w' => l' = l ++ fdFree D k s ∧ CkE w w' D roots P (some ⟨b, o, none⟩) s2 c1 c2 eb mb lb hb lo v' l' ∧ At w' bs [.bool false, .int .i64 s.cnt, .int .u32 (s.gen : Int), .int .i64 s.nd.key, .int .i64 s.nd.val, .int .u32 (s.nd.left : Int), .int .u32 (s.nd.right : Int), .int .i64 s.nd.size, .int .i64 s.nd.sum, .int .i64 s.nd.mn, .int .i64 s.nd.mx] 52) ?_ ?_
      · have ef : fdFree D k s = if (D.free.count (k + 1) : Int) = 1 then [] else [⟨1, k + 1, 1, (D.free.count (k + 1) : Int)⟩] := by unfold fdFree; rw [hon]; rfl
        by_cases hc : (D.free.count (k + 1) : Int) = 1
        · rw [if_pos hc] at ef
          repeat (first | refine sp ?_ | (refine is_load ?_; refine ld ?_) | (refine is_store ?_; refine sr ?_) | (refine is_alloc ?_; refine al ?_) | (refine is_box ?_; refine bx ?_) | (refine isl_load ?_; refine ldl ?_) | (refine isl_store ?_; refine srl ?_) | (refine isl_alloc ?_; refine all' ?_) | (refine isl_box ?_; refine bxl ?_))
          exact go_stop (G := Value × List Fd) (_, l) rfl ⟨rfl, rfl, rfl, rfl, rfl, rfl, rfl, rfl, rfl, rfl, trivial⟩ ⟨by rw [ef, List.append_nil], hE, hsl⟩ trivial
        · rw [if_neg hc] at ef
          repeat (first | refine sp ?_ | (refine is_load ?_; refine ld ?_) | (refine is_store ?_; refine sr ?_) | (refine is_alloc ?_; refine al ?_) | (refine is_box ?_; refine bx ?_) | (refine isl_load ?_; refine ldl ?_) | (refine isl_store ?_; refine srl ?_) | (refine isl_alloc ?_; refine all' ?_) | (refine isl_box ?_; refine bxl ?_))
          refine go_pushG (l := [.int .i64 1, .int .u32 ((k + 1 : Nat) : Int), .int .i64 1, .int .i64 (D.free.count (k + 1) : Int)]) (by decide) rfl rfl rfl rfl ho rfl (fd_one ⟨1, k + 1, 1, (D.free.count (k + 1) : Int)⟩) (by omega) (by simp [maxLen]; omega) (by omega) (by omega) ?_
          intro vv ww hoo hgg _
          have hE1 := hE.push (f := ⟨1, k + 1, 1, (D.free.count (k + 1) : Int)⟩) hoo hgg
          have hsl1 := hsl.fr (Fr.of_grown hgg) (hE.out.nec hsl (by decide))
          repeat (first | refine sp ?_ | (refine is_load ?_; refine ld ?_) | (refine is_store ?_; refine sr ?_) | (refine is_alloc ?_; refine al ?_) | (refine is_box ?_; refine bx ?_) | (refine isl_load ?_; refine ldl ?_) | (refine isl_store ?_; refine srl ?_) | (refine isl_alloc ?_; refine all' ?_) | (refine isl_box ?_; refine bxl ?_))
          exact go_stop (G := Value × List Fd) (vv, _) rfl ⟨rfl, rfl, rfl, rfl, rfl, rfl, rfl, rfl, rfl, rfl, trivial⟩ ⟨by rw [ef], hE1, hsl1⟩ trivial
      clear hE hsl hdb hea hma hla hha ho hxE
      rintro ⟨v1, l1⟩ w8 ⟨rfl, hE, hsl⟩
      have hl1 : (l ++ fdFree D k s).length ≤ 6000001 := by
        have := fdFree_len D k s
        rw [List.length_append]; omega
      generalize hlA : l ++ fdFree D k s = lA at *
      have hE0 := hE
      obtain ⟨hdb, hea, hma, hla, hha, ho, hxE, hlo, hlw⟩ := hE0
      unfold OwnF at ho
      obtain ⟨sv, cv, rfl, _, _⟩ := ho.slice
      repeat (first | refine sp ?_ | (refine is_load ?_; refine ld ?_) | (refine is_store ?_; refine sr ?_) | (refine is_alloc ?_; refine al ?_) | (refine is_box ?_; refine bx ?_) | (refine isl_load ?_; refine ldl ?_) | (refine isl_store ?_; refine srl ?_) | (refine isl_alloc ?_; refine all' ?_) | (refine isl_box ?_; refine bxl ?_))
      have hwc : wantC D roots k s = 0 := by unfold wantC; rw [hon]; rfl
      refine go_as 15 (u' := .int .i64 (wantC D roots k s)) rfl (by rw [hwc]) ?_
      refine go_as 129 (u' := .int .i64 (wantC D roots k s)) rfl (by rw [hwc]) ?_
      have hlB : lA = lA := rfl
      refine go_cut (G := Value × List Fd) [5] (fun ⟨v, _⟩ => [v]) [(1, .slice sa roots.length cap), (2, ptr w.heap.size), (6, .slice (some ⟨eb, 0, none⟩) D.slots.length D.slots.length), (7, .slice (some ⟨mb, 0, none⟩) D.slots.length D.slots.length), (8, .slice (some ⟨lb, 0, none⟩) D.slots.length D.slots.length), (9, .slice (some ⟨hb, 0, none⟩) D.slots.length D.slots.length), (10, .int .i64 (k : Int)), (11, .int .u32 ((k + 1 : Nat) : Int)), (12, ptr bs), (15, .int .i64 (wantC D roots k s))]
        (fun ⟨v', l'⟩ w' => l' = lA ++ fdCnt D roots k s ∧ CkE w w' D roots P (some ⟨b, o, none⟩) s2 c1 c2 eb mb lb hb lo v' l' ∧ At w' bs [.bool false, .int .i64 s.cnt, .int .u32 (s.gen : Int), .int .i64 s.nd.key, .int .i64 s.nd.val, .int .u32 (s.nd.left : Int), .int .u32 (s.nd.right : Int), .int .i64 s.nd.size, .int .i64 s.nd.sum, .int .i64 s.nd.mn, .int .i64 s.nd.mx] 52) ?_ ?_
      · by_cases hc : wantC D roots k s = s.cnt
        · have ef : fdCnt D roots k s = [] := by unfold fdCnt; rw [if_pos hc]
          repeat (first | refine sp ?_ | (refine is_load ?_; refine ld ?_) | (refine is_store ?_; refine sr ?_) | (refine is_alloc ?_; refine al ?_) | (refine is_box ?_; refine bx ?_) | (refine isl_load ?_; refine ldl ?_) | (refine isl_store ?_; refine srl ?_) | (refine isl_alloc ?_; refine all' ?_) | (refine isl_box ?_; refine bxl ?_))
          exact go_stop (G := Value × List Fd) (_, lA) rfl ⟨rfl, rfl, rfl, rfl, rfl, rfl, rfl, rfl, rfl, rfl, trivial⟩ ⟨by rw [ef, List.append_nil], hE, hsl⟩ trivial
        · have ef : fdCnt D roots k s = [⟨4, k + 1, wantC D roots k s, s.cnt⟩] := by unfold fdCnt; rw [if_neg hc]
          repeat (first | refine sp ?_ | (refine is_load ?_; refine ld ?_) | (refine is_store ?_; refine sr ?_) | (refine is_alloc ?_; refine al ?_) | (refine is_box ?_; refine bx ?_) | (refine isl_load ?_; refine ldl ?_) | (refine isl_store ?_; refine srl ?_) | (refine isl_alloc ?_; refine all' ?_) | (refine isl_box ?_; refine bxl ?_))
          refine go_pushG (l := [.int .i64 4, .int .u32 ((k + 1 : Nat) : Int), .int .i64 (wantC D roots k s), .int .i64 s.cnt]) (by decide) rfl rfl rfl rfl ho rfl (fd_one ⟨4, k + 1, wantC D roots k s, s.cnt⟩) (by omega) (by simp [maxLen]; omega) (by omega) (by omega) ?_
          intro vv ww hoo hgg _
          have hE1 := hE.push (f := ⟨4, k + 1, wantC D roots k s, s.cnt⟩) hoo hgg
          have hsl1 := hsl.fr (Fr.of_grown hgg) (hE.out.nec hsl (by decide))
          repeat (first | refine sp ?_ | (refine is_load ?_; refine ld ?_) | (refine is_store ?_; refine sr ?_) | (refine is_alloc ?_; refine al ?_) | (refine is_box ?_; refine bx ?_) | (refine isl_load ?_; refine ldl ?_) | (refine isl_store ?_; refine srl ?_) | (refine isl_alloc ?_; refine all' ?_) | (refine isl_box ?_; refine bxl ?_))
          exact go_stop (G := Value × List Fd) (vv, _) rfl ⟨rfl, rfl, rfl, rfl, rfl, rfl, rfl, rfl, rfl, rfl, trivial⟩ ⟨by rw [ef], hE1, hsl1⟩ trivial
      clear hE hsl hdb hea hma hla hha ho hxE
      rintro ⟨v3, l3⟩ w10 ⟨rfl, hE, hsl⟩
      have hl3 : (lA ++ fdCnt D roots k s).length ≤ 6000005 := by
        have := fdCnt_len D roots k s
        rw [List.length_append]; omega
      generalize hlC : lA ++ fdCnt D roots k s = lC at *
      have hE0 := hE
      obtain ⟨hdb, hea, hma, hla, hha, ho, hxE, hlo, hlw⟩ := hE0
      unfold OwnF at ho
      obtain ⟨sv, cv, rfl, _, _⟩ := ho.slice
      repeat (first | refine sp ?_ | (refine is_load ?_; refine ld ?_) | (refine is_store ?_; refine sr ?_) | (refine is_alloc ?_; refine al ?_) | (refine is_box ?_; refine bx ?_) | (refine isl_load ?_; refine ldl ?_) | (refine isl_store ?_; refine srl ?_) | (refine isl_alloc ?_; refine all' ?_) | (refine isl_box ?_; refine bxl ?_))
      exact go_stop (G := Nat × Value × List Fd) (k + 1, _, lC) rfl ⟨rfl, rfl, rfl, rfl, rfl, rfl, trivial⟩ ⟨hlt, by rw [hsucc, ← hlC, ← hlA]; simp [fdSlot, fdMid, fdLeak, hon], hE⟩ (by show D.slots.length - (k + 1) < D.slots.length - k; omega)
    | true =>
      rw [hon] at hsl
      repeat (first | refine sp ?_ | (refine is_load ?_; refine ld ?_) | (refine is_store ?_; refine sr ?_) | (refine is_alloc ?_; refine al ?_) | (refine is_box ?_; refine bx ?_) | (refine isl_load ?_; refine ldl ?_) | (refine isl_store ?_; refine srl ?_) | (refine isl_alloc ?_; refine all' ?_) | (refine isl_box ?_; refine bxl ?_))
      refine go_cut (G := Value × List Fd) [5] (fun ⟨v, _⟩ => [v]) [(1, .slice sa roots.length cap), (2, ptr w.heap.size), (6, .slice (some ⟨eb, 0, none⟩) D.slots.length D.slots.length), (7, .slice (some ⟨mb, 0, none⟩) D.slots.length D.slots.length), (8, .slice (some ⟨lb, 0, none⟩) D.slots.length D.slots.length), (9, .slice (some ⟨hb, 0, none⟩) D.slots.length D.slots.length), (10, .int .i64 (k : Int)), (11, .int .u32 ((k + 1 : Nat) : Int)), (12, ptr bs), (13, .int .i64 0)]
        (fun ⟨v', l'⟩ w' => l' = l ++ fdFree D k s ∧ CkE w w' D roots P (some ⟨b, o, none⟩) s2 c1 c2 eb mb lb hb lo v' l' ∧ At w' bs [.bool true, .int .i64 s.cnt, .int .u32 (s.gen : Int), .int .i64 s.nd.key, .int .i64 s.nd.val, .int .u32 (s.nd.left : Int), .int .u32 (s.nd.right : Int), .int .i64 s.nd.size, .int .i64 s.nd.sum, .int .i64 s.nd.mn, .int .i64 s.nd.mx] 52) ?_ ?_
      · have ef : fdFree D k s = if (D.free.count (k + 1) : Int) = 0 then [] else [⟨1, k + 1, 0, (D.free.count (k + 1) : Int)⟩] := by unfold fdFree; rw [hon]; rfl
        by_cases hc : (D.free.count (k + 1) : Int) = 0
        · rw [if_pos hc] at ef
          repeat (first | refine sp ?_ | (refine is_load ?_; refine ld ?_) | (refine is_store ?_; refine sr ?_) | (refine is_alloc ?_; refine al ?_) | (refine is_box ?_; refine bx ?_) | (refine isl_load ?_; refine ldl ?_) | (refine isl_store ?_; refine srl ?_) | (refine isl_alloc ?_; refine all' ?_) | (refine isl_box ?_; refine bxl ?_))
          exact go_stop (G := Value × List Fd) (_, l) rfl ⟨rfl, rfl, rfl, rfl, rfl, rfl, rfl, rfl, rfl, rfl, trivial⟩ ⟨by rw [ef, List.append_nil], hE, hsl⟩ trivial
        · rw [if_neg hc] at ef
          repeat (first | refine sp ?_ | (refine is_load ?_; refine ld ?_) | (refine is_store ?_; refine sr ?_) | (refine is_alloc ?_; refine al ?_) | (refine is_box ?_; refine bx ?_) | (refine isl_load ?_; refine ldl ?_) | (refine isl_store ?_; refine srl ?_) | (refine isl_alloc ?_; refine all' ?_) | (refine isl_box ?_; refine bxl ?_))
          refine go_pushG (l := [.int .i64 1, .int .u32 ((k + 1 : Nat) : Int), .int .i64 0, .int .i64 (D.free.count (k + 1) : Int)]) (by decide) rfl rfl rfl rfl ho rfl (fd_one ⟨1, k + 1, 0, (D.free.count (k + 1) : Int)⟩) (by omega) (by simp [maxLen]; omega) (by omega) (by omega) ?_
          intro vv ww hoo hgg _
          have hE1 := hE.push (f := ⟨1, k + 1, 0, (D.free.count (k + 1) : Int)⟩) hoo hgg
          have hsl1 := hsl.fr (Fr.of_grown hgg) (hE.out.nec hsl (by decide))
          repeat (first | refine sp ?_ | (refine is_load ?_; refine ld ?_) | (refine is_store ?_; refine sr ?_) | (refine is_alloc ?_; refine al ?_) | (refine is_box ?_; refine bx ?_) | (refine isl_load ?_; refine ldl ?_) | (refine isl_store ?_; refine srl ?_) | (refine isl_alloc ?_; refine all' ?_) | (refine isl_box ?_; refine bxl ?_))
          exact go_stop (G := Value × List Fd) (vv, _) rfl ⟨rfl, rfl, rfl, rfl, rfl, rfl, rfl, rfl, rfl, rfl, trivial⟩ ⟨by rw [ef], hE1, hsl1⟩ trivial
      clear hE hsl hdb hea hma hla hha ho hxE
      rintro ⟨v1, l1⟩ w8 ⟨rfl, hE, hsl⟩
      have hl1 : (l ++ fdFree D k s).length ≤ 6000001 := by
        have := fdFree_len D k s
        rw [List.length_append]; omega
      generalize hlA : l ++ fdFree D k s = lA at *
      have hE0 := hE
      obtain ⟨hdb, hea, hma, hla, hha, ho, hxE, hlo, hlw⟩ := hE0
      unfold OwnF at ho
      obtain ⟨sv, cv, rfl, _, _⟩ := ho.slice
      repeat (first | refine sp ?_ | (refine is_load ?_; refine ld ?_) | (refine is_store ?_; refine sr ?_) | (refine is_alloc ?_; refine al ?_) | (refine is_box ?_; refine bx ?_) | (refine isl_load ?_; refine ldl ?_) | (refine isl_store ?_; refine srl ?_) | (refine isl_alloc ?_; refine all' ?_) | (refine isl_box ?_; refine bxl ?_))
      refine go_call rfl rfl (c_kids w8 ⟨true, s.cnt, s.gen, s.nd⟩) ?_
      rintro _ w9 ⟨rfl, hx9⟩
      repeat (first | refine sp ?_ | (refine is_load ?_; refine ld ?_) | (refine is_store ?_; refine sr ?_) | (refine is_alloc ?_; refine al ?_) | (refine is_box ?_; refine bx ?_) | (refine isl_load ?_; refine ldl ?_) | (refine isl_store ?_; refine srl ?_) | (refine isl_alloc ?_; refine all' ?_) | (refine isl_box ?_; refine bxl ?_))
      refine go_name (F := fun w10 => At w10 w9.heap.size [.int .u32 (s.nd.left : Int), .int .u32 (s.nd.right : Int)] 98 ∧ Ext w9 w10) ⟨by (repeat (first | assumption | (refine At.new' (by (first | omega | (simp; done) | (simp; omega))) _ _) | apply At.alloc | apply At.drewN | apply At.setRow | (apply At.setRow_neF; first | assumption | (apply Ne.symm; assumption) | omega) | (apply At.extF; assumption))), by (repeat (first | exact Fr.refl _ _ | assumption | apply Fr.drewN | apply Fr.alloc | (apply Fr.transF; assumption) | (refine Fr.setRow ?_ _ (by first | exact Or.inr (by (first | omega | (simp; done) | (simp; omega))) | (exact Or.inl (by first | assumption | (simp; done)))))))⟩ ?_
      rintro w10 ⟨hcb, hx10⟩
      clear hdb hea hma hla hha ho hxE
      replace hE := (hE.ex hx9).ex hx10
      replace hsl := (hsl.ext hx9).ext hx10
      generalize w9.heap.size = cb at hcb ⊢
      refine go_loop (G := Nat × Value × List Fd) [18, 17, 5] (fun ⟨i, v, _⟩ => [.int .i64 (i : Int), .int .i64 (szK D s i), v]) [(1, .slice sa roots.length cap), (2, ptr w.heap.size), (6, .slice (some ⟨eb, 0, none⟩) D.slots.length D.slots.length), (7, .slice (some ⟨mb, 0, none⟩) D.slots.length D.slots.length), (8, .slice (some ⟨lb, 0, none⟩) D.slots.length D.slots.length), (9, .slice (some ⟨hb, 0, none⟩) D.slots.length D.slots.length), (10, .int .i64 (k : Int)), (11, .int .u32 ((k + 1 : Nat) : Int)), (12, ptr bs), (16, ptr cb)]
        (fun ⟨i, v', l'⟩ w' => i ≤ 2 ∧ l' = lA ++ fdK D (k + 1) s i ∧ CkE w w' D roots P (some ⟨b, o, none⟩) s2 c1 c2 eb mb lb hb lo v' l' ∧ At w' bs [.bool true, .int .i64 s.cnt, .int .u32 (s.gen : Int), .int .i64 s.nd.key, .int .i64 s.nd.val, .int .u32 (s.nd.left : Int), .int .u32 (s.nd.right : Int), .int .i64 s.nd.size, .int .i64 s.nd.sum, .int .i64 s.nd.mn, .int .i64 s.nd.mx] 52 ∧ At w' cb [.int .u32 (s.nd.left : Int), .int .u32 (s.nd.right : Int)] 98) (fun g => 2 - g.1) (0, _, lA) rfl ⟨rfl, rfl, rfl, rfl, rfl, rfl, rfl, rfl, rfl, rfl, trivial⟩ ⟨by omega, by simp [fdK], hE, hsl, hcb⟩ ?_
      clear hE hsl hcb
      rintro ⟨i, v, lB⟩ w11 ⟨hi, hlB, hE, hsl, hcb⟩
      have hlBl : lB.length ≤ 6000003 := by
        have h2 : (fdK D (k + 1) s i).length ≤ 2 := by
          have := flatMap_le (fdKid D (k + 1)) 1 (fdKid_len D (k + 1)) (s.kd.take i)
          have h3 : (s.kd.take i).length ≤ 2 := by rw [List.length_take]; simp [Slt.kd]; omega
          unfold fdK; omega
        rw [hlB, List.length_append]; omega
      have hE0 := hE
      obtain ⟨hdb, hea, hma, hla, hha, ho, hxE, hlo, hlw⟩ := hE0
      unfold OwnF at ho
      obtain ⟨sv, cv, rfl, _, _⟩ := ho.slice
      have hi3 : i = 0 ∨ i = 1 ∨ i = 2 := by omega
      rcases hi3 with rfl | rfl | rfl
      · have hc32 : s.nd.left < 4294967296 := hkid.1
        have ekd : fdK D (k + 1) s (0 + 1) = fdK D (k + 1) s 0 ++ fdKid D (k + 1) s.nd.left := by simp [fdK, Slt.kd]
        have eszk : szK D s (0 + 1) = szAdd D (szK D s 0) s.nd.left := rfl
        repeat (first | refine sp ?_ | (refine is_load ?_; refine ld ?_) | (refine is_store ?_; refine sr ?_) | (refine is_alloc ?_; refine al ?_) | (refine is_box ?_; refine bx ?_) | (refine isl_load ?_; refine ldl ?_) | (refine isl_store ?_; refine srl ?_) | (refine isl_alloc ?_; refine all' ?_) | (refine isl_box ?_; refine bxl ?_))
        refine go_drawE (Fr (fun _ => False) w11) 0 Try.follows (by kernel_rfl) (by kernel_rfl) (by kernel_rfl) ((Fr.refl _ _).drewN 1) ?_
        repeat (first | refine sp ?_ | (refine is_load ?_; refine ld ?_) | (refine is_store ?_; refine sr ?_) | (refine is_alloc ?_; refine al ?_) | (refine is_box ?_; refine bx ?_) | (refine isl_load ?_; refine ldl ?_) | (refine isl_store ?_; refine srl ?_) | (refine isl_alloc ?_; refine all' ?_) | (refine isl_box ?_; refine bxl ?_))
        refine gol_p rfl rfl (pr_idx2 (j := 0) rfl rfl rfl (by omega)) ?_
        repeat (first | refine sp ?_ | (refine is_load ?_; refine ld ?_) | (refine is_store ?_; refine sr ?_) | (refine is_alloc ?_; refine al ?_) | (refine is_box ?_; refine bx ?_) | (refine isl_load ?_; refine ldl ?_) | (refine isl_store ?_; refine srl ?_) | (refine isl_alloc ?_; refine all' ?_) | (refine isl_box ?_; refine bxl ?_))
        refine gol_call rfl rfl (c_Allocated _ lo0 _ D s.nd.left (hd0.ext (hE.ext.trans (by (repeat (first | exact Fr.refl _ _ | assumption | apply Fr.drewN | apply Fr.alloc | (apply Fr.transF; assumption) | (refine Fr.setRow ?_ _ (by first | exact Or.inr (by (first | omega | (simp; done) | (simp; omega))) | (exact Or.inl (by first | assumption | (simp; done)))))))))) (by omega) hc32) ?_
        rintro _ w12 ⟨rfl, hx12⟩
        have hx12' : Ext w11 w12 := Fr.trans ((Fr.refl _ _).drewN 1) hx12
        refine ⟨hx12', ?_⟩
        clear hdb hea hma hla hha ho hxE
        replace hE := hE.ex hx12'
        replace hsl := hsl.ext hx12'
        replace hcb := hcb.ext hx12'
        have hE0 := hE
        obtain ⟨hdb, hea, hma, hla, hha, ho, hxE, hlo, hlw⟩ := hE0
        unfold OwnF at ho
        cases hal : D.al s.nd.left with
        | false =>
          have esz : szK D s (0 + 1) = szK D s 0 := by rw [eszk]; unfold szAdd; rw [hal]; rfl
          have ek : fdKid D (k + 1) s.nd.left = if s.nd.left = 0 then [] else [⟨2, k + 1, 0, (s.nd.left : Int)⟩] := by unfold fdKid; rw [hal]; rfl
          repeat (first | refine sp ?_ | (refine is_load ?_; refine ld ?_) | (refine is_store ?_; refine sr ?_) | (refine is_alloc ?_; refine al ?_) | (refine is_box ?_; refine bx ?_) | (refine isl_load ?_; refine ldl ?_) | (refine isl_store ?_; refine srl ?_) | (refine isl_alloc ?_; refine all' ?_) | (refine isl_box ?_; refine bxl ?_))
          refine go_p rfl (pr_idx2 (j := 0) rfl rfl rfl (by omega)) ?_
          by_cases h0 : s.nd.left = 0
          · rw [if_pos h0] at ek
            rw [h0] at hcb
            repeat (first | refine sp ?_ | (refine is_load ?_; refine ld ?_) | (refine is_store ?_; refine sr ?_) | (refine is_alloc ?_; refine al ?_) | (refine is_box ?_; refine bx ?_) | (refine isl_load ?_; refine ldl ?_) | (refine isl_store ?_; refine srl ?_) | (refine isl_alloc ?_; refine all' ?_) | (refine isl_box ?_; refine bxl ?_))
            refine go_as 17 (u' := .int .i64 (szK D s (0 + 1))) rfl (by rw [esz]) ?_
            exact go_stop (G := Nat × Value × List Fd) (0 + 1, _, lB) rfl ⟨rfl, rfl, rfl, rfl, rfl, rfl, rfl, rfl, rfl, rfl, trivial⟩ ⟨by omega, by rw [hlB, ekd, ek, List.append_nil], hE, hsl, by rw [h0]; exact hcb⟩ (by show 2 - (0 + 1) < 2 - 0; omega)
          · rw [if_neg h0] at ek
            repeat (first | refine sp ?_ | (refine is_load ?_; refine ld ?_) | (refine is_store ?_; refine sr ?_) | (refine is_alloc ?_; refine al ?_) | (refine is_box ?_; refine bx ?_) | (refine isl_load ?_; refine ldl ?_) | (refine isl_store ?_; refine srl ?_) | (refine isl_alloc ?_; refine all' ?_) | (refine isl_box ?_; refine bxl ?_))
            refine go_p rfl (pr_idx2 (j := 0) rfl rfl rfl (by omega)) ?_
            repeat (first | refine sp ?_ | (refine is_load ?_; refine ld ?_) | (refine is_store ?_; refine sr ?_) | (refine is_alloc ?_; refine al ?_) | (refine is_box ?_; refine bx ?_) | (refine isl_load ?_; refine ldl ?_) | (refine isl_store ?_; refine srl ?_) | (refine isl_alloc ?_; refine all' ?_) | (refine isl_box ?_; refine bxl ?_))
            refine go_pushG (l := [.int .i64 2, .int .u32 ((k + 1 : Nat) : Int), .int .i64 0, .int .i64 (s.nd.left : Int)]) (by decide) rfl rfl rfl rfl ho rfl (fd_one ⟨2, k + 1, 0, (s.nd.left : Int)⟩) (by omega) (by simp [maxLen]; omega) (by omega) (by omega) ?_
            intro vv ww hoo hgg _
            have hE1 := hE.push (f := ⟨2, k + 1, 0, (s.nd.left : Int)⟩) hoo hgg
            have hsl1 := hsl.fr (Fr.of_grown hgg) (hE.out.nec hsl (by decide))
            have hcb1 := hcb.fr (Fr.of_grown hgg) (hE.out.nec hcb (by decide))
            repeat (first | refine sp ?_ | (refine is_load ?_; refine ld ?_) | (refine is_store ?_; refine sr ?_) | (refine is_alloc ?_; refine al ?_) | (refine is_box ?_; refine bx ?_) | (refine isl_load ?_; refine ldl ?_) | (refine isl_store ?_; refine srl ?_) | (refine isl_alloc ?_; refine all' ?_) | (refine isl_box ?_; refine bxl ?_))
            refine go_as 17 (u' := .int .i64 (szK D s (0 + 1))) rfl (by rw [esz]) ?_
            exact go_stop (G := Nat × Value × List Fd) (0 + 1, vv, _) rfl ⟨rfl, rfl, rfl, rfl, rfl, rfl, rfl, rfl, rfl, rfl, trivial⟩ ⟨by omega, by rw [hlB, ekd, ek, List.append_assoc], hE1, hsl1, hcb1⟩ (by show 2 - (0 + 1) < 2 - 0; omega)
        | true =>
          obtain ⟨y, hy, hyl, hyo⟩ := Dp.al_lt hal
          have esz : szK D s (0 + 1) = w64 (szK D s 0 + D.slots[y].nd.size) := by
            rw [eszk]; unfold szAdd; rw [if_pos hal, hy]; simp [Dp.szAt, List.getElem?_eq_getElem hyl]
          have ek : fdKid D (k + 1) s.nd.left = [] := by unfold fdKid; rw [if_pos hal]
          obtain ⟨b2, o2, e2, hbl2, hcell2⟩ := (hs'.ext hE.ext).at (m := 11) slt_len (by omega) hyl
          simp only [Option.some.injEq, Addr.mk.injEq, and_true] at e2
          obtain ⟨rfl, rfl⟩ := e2
          have e7 : w12.cell? ⟨b, o + y * 11 + 3 + 4, none⟩ = some (.int .i64 D.slots[y].nd.size) := by
            have := hcell2 7 (.int .i64 D.slots[y].nd.size) rfl
            simpa [Nat.add_assoc] using this
          generalize D.slots[y].nd.size = zz at *
          repeat (first | refine sp ?_ | (refine is_load ?_; refine ld ?_) | (refine is_store ?_; refine sr ?_) | (refine is_alloc ?_; refine al ?_) | (refine is_box ?_; refine bx ?_) | (refine isl_load ?_; refine ldl ?_) | (refine isl_store ?_; refine srl ?_) | (refine isl_alloc ?_; refine all' ?_) | (refine isl_box ?_; refine bxl ?_))
          refine go_drawE (Fr (fun _ => False) w12) 0 Try.follows (by kernel_rfl) (by kernel_rfl) (by kernel_rfl) ((Fr.refl _ _).drewN 1) ?_
          repeat (first | refine sp ?_ | (refine is_load ?_; refine ld ?_) | (refine is_store ?_; refine sr ?_) | (refine is_alloc ?_; refine al ?_) | (refine is_box ?_; refine bx ?_) | (refine isl_load ?_; refine ldl ?_) | (refine isl_store ?_; refine srl ?_) | (refine isl_alloc ?_; refine all' ?_) | (refine isl_box ?_; refine bxl ?_))
          refine gol_p rfl rfl (pr_idx2 (j := 0) rfl rfl rfl (by omega)) ?_
          repeat (first | refine sp ?_ | (refine is_load ?_; refine ld ?_) | (refine is_store ?_; refine sr ?_) | (refine is_alloc ?_; refine al ?_) | (refine is_box ?_; refine bx ?_) | (refine isl_load ?_; refine ldl ?_) | (refine isl_store ?_; refine srl ?_) | (refine isl_alloc ?_; refine all' ?_) | (refine isl_box ?_; refine bxl ?_))
          refine go_as 87 (u' := .int .u32 (y : Int)) rfl (by rw [hy]; congr 1; omega) ?_
          repeat (first | refine sp ?_ | (refine is_load ?_; refine ld ?_) | (refine is_store ?_; refine sr ?_) | (refine is_alloc ?_; refine al ?_) | (refine is_box ?_; refine bx ?_) | (refine isl_load ?_; refine ldl ?_) | (refine isl_store ?_; refine srl ?_) | (refine isl_alloc ?_; refine all' ?_) | (refine isl_box ?_; refine bxl ?_))
          refine go_as 17 (u' := .int .i64 (szK D s (0 + 1))) rfl (by rw [esz]; rfl) ?_
          exact go_stop (G := Nat × Value × List Fd) (0 + 1, _, lB) rfl ⟨rfl, rfl, rfl, rfl, rfl, rfl, rfl, rfl, rfl, rfl, trivial⟩ ⟨by omega, by rw [hlB, ekd, ek, List.append_nil], hE.ex (by (repeat (first | exact Fr.refl _ _ | assumption | apply Fr.drewN | apply Fr.alloc | (apply Fr.transF; assumption) | (refine Fr.setRow ?_ _ (by first | exact Or.inr (by (first | omega | (simp; done) | (simp; omega))) | (exact Or.inl (by first | assumption | (simp; done)))))))), hsl.ext (by (repeat (first | exact Fr.refl _ _ | assumption | apply Fr.drewN | apply Fr.alloc | (apply Fr.transF; assumption) | (refine Fr.setRow ?_ _ (by first | exact Or.inr (by (first | omega | (simp; done) | (simp; omega))) | (exact Or.inl (by first | assumption | (simp; done)))))))), hcb.ext (by (repeat (first | exact Fr.refl _ _ | assumption | apply Fr.drewN | apply Fr.alloc | (apply Fr.transF; assumption) | (refine Fr.setRow ?_ _ (by first | exact Or.inr (by (first | omega | (simp; done) | (simp; omega))) | (exact Or.inl (by first | assumption | (simp; done))))))))⟩ (by show 2 - (0 + 1) < 2 - 0; omega)
      · have hc32 : s.nd.right < 4294967296 := hkid.2
        have ekd : fdK D (k + 1) s (1 + 1) = fdK D (k + 1) s 1 ++ fdKid D (k + 1) s.nd.right := by simp [fdK, Slt.kd]
        have eszk : szK D s (1 + 1) = szAdd D (szK D s 1) s.nd.right := rfl
        repeat (first | refine sp ?_ | (refine is_load ?_; refine ld ?_) | (refine is_store ?_; refine sr ?_) | (refine is_alloc ?_; refine al ?_) | (refine is_box ?_; refine bx ?_) | (refine isl_load ?_; refine ldl ?_) | (refine isl_store ?_; refine srl ?_) | (refine isl_alloc ?_; refine all' ?_) | (refine isl_box ?_; refine bxl ?_))
        refine go_drawE (Fr (fun _ => False) w11) 0 Try.follows (by kernel_rfl) (by kernel_rfl) (by kernel_rfl) ((Fr.refl _ _).drewN 1) ?_
        repeat (first | refine sp ?_ | (refine is_load ?_; refine ld ?_) | (refine is_store ?_; refine sr ?_) | (refine is_alloc ?_; refine al ?_) | (refine is_box ?_; refine bx ?_) | (refine isl_load ?_; refine ldl ?_) | (refine isl_store ?_; refine srl ?_) | (refine isl_alloc ?_; refine all' ?_) | (refine isl_box ?_; refine bxl ?_))
        refine gol_p rfl rfl (pr_idx2 (j := 1) rfl rfl rfl (by omega)) ?_
        repeat (first | refine sp ?_ | (refine is_load ?_; refine ld ?_) | (refine is_store ?_; refine sr ?_) | (refine is_alloc ?_; refine al ?_) | (refine is_box ?_; refine bx ?_) | (refine isl_load ?_; refine ldl ?_) | (refine isl_store ?_; refine srl ?_) | (refine isl_alloc ?_; refine all' ?_) | (refine isl_box ?_; refine bxl ?_))
        refine gol_call rfl rfl (c_Allocated _ lo0 _ D s.nd.right (hd0.ext (hE.ext.trans (by (repeat (first | exact Fr.refl _ _ | assumption | apply Fr.drewN | apply Fr.alloc | (apply Fr.transF; assumption) | (refine Fr.setRow ?_ _ (by first | exact Or.inr (by (first | omega | (simp; done) | (simp; omega))) | (exact Or.inl (by first | assumption | (simp; done)))))))))) (by omega) hc32) ?_
        rintro _ w12 ⟨rfl, hx12⟩
        have hx12' : Ext w11 w12 := Fr.trans ((Fr.refl _ _).drewN 1) hx12
        refine ⟨hx12', ?_⟩
        clear hdb hea hma hla hha ho hxE
        replace hE := hE.ex hx12'
        replace hsl := hsl.ext hx12'
        replace hcb := hcb.ext hx12'
        have hE0 := hE
        obtain ⟨hdb, hea, hma, hla, hha, ho, hxE, hlo, hlw⟩ := hE0
        unfold OwnF at ho
        cases hal : D.al s.nd.right with
        | false =>
          have esz : szK D s (1 + 1) = szK D s 1 := by rw [eszk]; unfold szAdd; rw [hal]; rfl
          have ek : fdKid D (k + 1) s.nd.right = if s.nd.right = 0 then [] else [⟨2, k + 1, 0, (s.nd.right : Int)⟩] := by unfold fdKid; rw [hal]; rfl
          repeat (first | refine sp ?_ | (refine is_load ?_; refine ld ?_) | (refine is_store ?_; refine sr ?_) | (refine is_alloc ?_; refine al ?_) | (refine is_box ?_; refine bx ?_) | (refine isl_load ?_; refine ldl ?_) | (refine isl_store ?_; refine srl ?_) | (refine isl_alloc ?_; refine all' ?_) | (refine isl_box ?_; refine bxl ?_))
          refine go_p rfl (pr_idx2 (j := 1) rfl rfl rfl (by omega)) ?_
          by_cases h0 : s.nd.right = 0
          · rw [if_pos h0] at ek
            rw [h0] at hcb
            repeat (first | refine sp ?_ | (refine is_load ?_; refine ld ?_) | (refine is_store ?_; refine sr ?_) | (refine is_alloc ?_; refine al ?_) | (refine is_box ?_; refine bx ?_) | (refine isl_load ?_; refine ldl ?_) | (refine isl_store ?_; refine srl ?_) | (refine isl_alloc ?_; refine all' ?_) | (refine isl_box ?_; refine bxl ?_))
            refine go_as 17 (u' := .int .i64 (szK D s (1 + 1))) rfl (by rw [esz]) ?_
            exact go_stop (G := Nat × Value × List Fd) (1 + 1, _, lB) rfl ⟨rfl, rfl, rfl, rfl, rfl, rfl, rfl, rfl, rfl, rfl, trivial⟩ ⟨by omega, by rw [hlB, ekd, ek, List.append_nil], hE, hsl, by rw [h0]; exact hcb⟩ (by show 2 - (1 + 1) < 2 - 1; omega)
          · rw [if_neg h0] at ek
            repeat (first | refine sp ?_ | (refine is_load ?_; refine ld ?_) | (refine is_store ?_; refine sr ?_) | (refine is_alloc ?_; refine al ?_) | (refine is_box ?_; refine bx ?_) | (refine isl_load ?_; refine ldl ?_) | (refine isl_store ?_; refine srl ?_) | (refine isl_alloc ?_; refine all' ?_) | (refine isl_box ?_; refine bxl ?_))
            refine go_p rfl (pr_idx2 (j := 1) rfl rfl rfl (by omega)) ?_
            repeat (first | refine sp ?_ | (refine is_load ?_; refine ld ?_) | (refine is_store ?_; refine sr ?_) | (refine is_alloc ?_; refine al ?_) | (refine is_box ?_; refine bx ?_) | (refine isl_load ?_; refine ldl ?_) | (refine isl_store ?_; refine srl ?_) | (refine isl_alloc ?_; refine all' ?_) | (refine isl_box ?_; refine bxl ?_))
            refine go_pushG (l := [.int .i64 2, .int .u32 ((k + 1 : Nat) : Int), .int .i64 0, .int .i64 (s.nd.right : Int)]) (by decide) rfl rfl rfl rfl ho rfl (fd_one ⟨2, k + 1, 0, (s.nd.right : Int)⟩) (by omega) (by simp [maxLen]; omega) (by omega) (by omega) ?_
            intro vv ww hoo hgg _
            have hE1 := hE.push (f := ⟨2, k + 1, 0, (s.nd.right : Int)⟩) hoo hgg
            have hsl1 := hsl.fr (Fr.of_grown hgg) (hE.out.nec hsl (by decide))
            have hcb1 := hcb.fr (Fr.of_grown hgg) (hE.out.nec hcb (by decide))
            repeat (first | refine sp ?_ | (refine is_load ?_; refine ld ?_) | (refine is_store ?_; refine sr ?_) | (refine is_alloc ?_; refine al ?_) | (refine is_box ?_; refine bx ?_) | (refine isl_load ?_; refine ldl ?_) | (refine isl_store ?_; refine srl ?_) | (refine isl_alloc ?_; refine all' ?_) | (refine isl_box ?_; refine bxl ?_))
            refine go_as 17 (u' := .int .i64 (szK D s (1 + 1))) rfl (by rw [esz]) ?_
            exact go_stop (G := Nat × Value × List Fd) (1 + 1, vv, _) rfl ⟨rfl, rfl, rfl, rfl, rfl, rfl, rfl, rfl, rfl, rfl, trivial⟩ ⟨by omega, by rw [hlB, ekd, ek, List.append_assoc], hE1, hsl1, hcb1⟩ (by show 2 - (1 + 1) < 2 - 1; omega)
        | true =>
          obtain ⟨y, hy, hyl, hyo⟩ := Dp.al_lt hal
          have esz : szK D s (1 + 1) = w64 (szK D s 1 + D.slots[y].nd.size) := by
            rw [eszk]; unfold szAdd; rw [if_pos hal, hy]; simp [Dp.szAt, List.getElem?_eq_getElem hyl]
          have ek : fdKid D (k + 1) s.nd.right = [] := by unfold fdKid; rw [if_pos hal]
          obtain ⟨b2, o2, e2, hbl2, hcell2⟩ := (hs'.ext hE.ext).at (m := 11) slt_len (by omega) hyl
          simp only [Option.some.injEq, Addr.mk.injEq, and_true] at e2
          obtain ⟨rfl, rfl⟩ := e2
          have e7 : w12.cell? ⟨b, o + y * 11 + 3 + 4, none⟩ = some (.int .i64 D.slots[y].nd.size) := by
            have := hcell2 7 (.int .i64 D.slots[y].nd.size) rfl
            simpa [Nat.add_assoc] using this
          generalize D.slots[y].nd.size = zz at *
          repeat (first | refine sp ?_ | (refine is_load ?_; refine ld ?_) | (refine is_store ?_; refine sr ?_) | (refine is_alloc ?_; refine al ?_) | (refine is_box ?_; refine bx ?_) | (refine isl_load ?_; refine ldl ?_) | (refine isl_store ?_; refine srl ?_) | (refine isl_alloc ?_; refine all' ?_) | (refine isl_box ?_; refine bxl ?_))
          refine go_drawE (Fr (fun _ => False) w12) 0 Try.follows (by kernel_rfl) (by kernel_rfl) (by kernel_rfl) ((Fr.refl _ _).drewN 1) ?_
          repeat (first | refine sp ?_ | (refine is_load ?_; refine ld ?_) | (refine is_store ?_; refine sr ?_) | (refine is_alloc ?_; refine al ?_) | (refine is_box ?_; refine bx ?_) | (refine isl_load ?_; refine ldl ?_) | (refine isl_store ?_; refine srl ?_) | (refine isl_alloc ?_; refine all' ?_) | (refine isl_box ?_; refine bxl ?_))
          refine gol_p rfl rfl (pr_idx2 (j := 1) rfl rfl rfl (by omega)) ?_
          repeat (first | refine sp ?_ | (refine is_load ?_; refine ld ?_) | (refine is_store ?_; refine sr ?_) | (refine is_alloc ?_; refine al ?_) | (refine is_box ?_; refine bx ?_) | (refine isl_load ?_; refine ldl ?_) | (refine isl_store ?_; refine srl ?_) | (refine isl_alloc ?_; refine all' ?_) | (refine isl_box ?_; refine bxl ?_))
          refine go_as 87 (u' := .int .u32 (y : Int)) rfl (by rw [hy]; congr 1; omega) ?_
          repeat (first | refine sp ?_ | (refine is_load ?_; refine ld ?_) | (refine is_store ?_; refine sr ?_) | (refine is_alloc ?_; refine al ?_) | (refine is_box ?_; refine bx ?_) | (refine isl_load ?_; refine ldl ?_) | (refine isl_store ?_; refine srl ?_) | (refine isl_alloc ?_; refine all' ?_) | (refine isl_box ?_; refine bxl ?_))
          refine go_as 17 (u' := .int .i64 (szK D s (1 + 1))) rfl (by rw [esz]; rfl) ?_
          exact go_stop (G := Nat × Value × List Fd) (1 + 1, _, lB) rfl ⟨rfl, rfl, rfl, rfl, rfl, rfl, rfl, rfl, rfl, rfl, trivial⟩ ⟨by omega, by rw [hlB, ekd, ek, List.append_nil], hE.ex (by (repeat (first | exact Fr.refl _ _ | assumption | apply Fr.drewN | apply Fr.alloc | (apply Fr.transF; assumption) | (refine Fr.setRow ?_ _ (by first | exact Or.inr (by (first | omega | (simp; done) | (simp; omega))) | (exact Or.inl (by first | assumption | (simp; done)))))))), hsl.ext (by (repeat (first | exact Fr.refl _ _ | assumption | apply Fr.drewN | apply Fr.alloc | (apply Fr.transF; assumption) | (refine Fr.setRow ?_ _ (by first | exact Or.inr (by (first | omega | (simp; done) | (simp; omega))) | (exact Or.inl (by first | assumption | (simp; done)))))))), hcb.ext (by (repeat (first | exact Fr.refl _ _ | assumption | apply Fr.drewN | apply Fr.alloc | (apply Fr.transF; assumption) | (refine Fr.setRow ?_ _ (by first | exact Or.inr (by (first | omega | (simp; done) | (simp; omega))) | (exact Or.inl (by first | assumption | (simp; done))))))))⟩ (by show 2 - (1 + 1) < 2 - 1; omega)
      · repeat (first | refine sp ?_ | (refine is_load ?_; refine ld ?_) | (refine is_store ?_; refine sr ?_) | (refine is_alloc ?_; refine al ?_) | (refine is_box ?_; refine bx ?_) | (refine isl_load ?_; refine ldl ?_) | (refine isl_store ?_; refine srl ?_) | (refine isl_alloc ?_; refine all' ?_) | (refine isl_box ?_; refine bxl ?_))
        refine go_cut (G := Value × List Fd) [5] (fun ⟨v, _⟩ => [v]) [(1, .slice sa roots.length cap), (2, ptr w.heap.size), (6, .slice (some ⟨eb, 0, none⟩) D.slots.length D.slots.length), (7, .slice (some ⟨mb, 0, none⟩) D.slots.length D.slots.length), (8, .slice (some ⟨lb, 0, none⟩) D.slots.length D.slots.length), (9, .slice (some ⟨hb, 0, none⟩) D.slots.length D.slots.length), (10, .int .i64 (k : Int)), (11, .int .u32 ((k + 1 : Nat) : Int)), (12, ptr bs)]
          (fun ⟨v', l'⟩ w' => l' = lB ++ fdSize D k s ∧ CkE w w' D roots P (some ⟨b, o, none⟩) s2 c1 c2 eb mb lb hb lo v' l' ∧ At w' bs [.bool true, .int .i64 s.cnt, .int .u32 (s.gen : Int), .int .i64 s.nd.key, .int .i64 s.nd.val, .int .u32 (s.nd.left : Int), .int .u32 (s.nd.right : Int), .int .i64 s.nd.size, .int .i64 s.nd.sum, .int .i64 s.nd.mn, .int .i64 s.nd.mx] 52) ?_ ?_
        · by_cases hc : szK D s 2 = s.nd.size
          · have ef : fdSize D k s = [] := by unfold fdSize; rw [if_pos hc]
            repeat (first | refine sp ?_ | (refine is_load ?_; refine ld ?_) | (refine is_store ?_; refine sr ?_) | (refine is_alloc ?_; refine al ?_) | (refine is_box ?_; refine bx ?_) | (refine isl_load ?_; refine ldl ?_) | (refine isl_store ?_; refine srl ?_) | (refine isl_alloc ?_; refine all' ?_) | (refine isl_box ?_; refine bxl ?_))
            exact go_stop (G := Value × List Fd) (_, lB) rfl ⟨rfl, rfl, rfl, rfl, rfl, rfl, rfl, rfl, rfl, trivial⟩ ⟨by rw [ef, List.append_nil], hE, hsl⟩ trivial
          · have ef : fdSize D k s = [⟨3, k + 1, szK D s 2, s.nd.size⟩] := by unfold fdSize; rw [if_neg hc]
            repeat (first | refine sp ?_ | (refine is_load ?_; refine ld ?_) | (refine is_store ?_; refine sr ?_) | (refine is_alloc ?_; refine al ?_) | (refine is_box ?_; refine bx ?_) | (refine isl_load ?_; refine ldl ?_) | (refine isl_store ?_; refine srl ?_) | (refine isl_alloc ?_; refine all' ?_) | (refine isl_box ?_; refine bxl ?_))
            refine go_pushG (l := [.int .i64 3, .int .u32 ((k + 1 : Nat) : Int), .int .i64 (szK D s 2), .int .i64 s.nd.size]) (by decide) rfl rfl rfl rfl ho rfl (fd_one ⟨3, k + 1, szK D s 2, s.nd.size⟩) (by omega) (by simp [maxLen]; omega) (by omega) (by omega) ?_
            intro vv ww hoo hgg _
            have hE1 := hE.push (f := ⟨3, k + 1, szK D s 2, s.nd.size⟩) hoo hgg
            have hsl1 := hsl.fr (Fr.of_grown hgg) (hE.out.nec hsl (by decide))
            repeat (first | refine sp ?_ | (refine is_load ?_; refine ld ?_) | (refine is_store ?_; refine sr ?_) | (refine is_alloc ?_; refine al ?_) | (refine is_box ?_; refine bx ?_) | (refine isl_load ?_; refine ldl ?_) | (refine isl_store ?_; refine srl ?_) | (refine isl_alloc ?_; refine all' ?_) | (refine isl_box ?_; refine bxl ?_))
            exact go_stop (G := Value × List Fd) (vv, _) rfl ⟨rfl, rfl, rfl, rfl, rfl, rfl, rfl, rfl, rfl, trivial⟩ ⟨by rw [ef], hE1, hsl1⟩ trivial
        clear hE hsl hdb hea hma hla hha ho hxE
        rintro ⟨v2, l2⟩ w12 ⟨rfl, hE, hsl⟩
        have hl2 : (lB ++ fdSize D k s).length ≤ 6000004 := by
          have := fdSize_len D k s
          rw [List.length_append]; omega
        generalize hlD : lB ++ fdSize D k s = lD at *
        have hE0 := hE
        obtain ⟨hdb, hea, hma, hla, hha, ho, hxE, hlo, hlw⟩ := hE0
        unfold OwnF at ho
        obtain ⟨sv, cv, rfl, _, _⟩ := ho.slice
        repeat (first | refine sp ?_ | (refine is_load ?_; refine ld ?_) | (refine is_store ?_; refine sr ?_) | (refine is_alloc ?_; refine al ?_) | (refine is_box ?_; refine bx ?_) | (refine isl_load ?_; refine ldl ?_) | (refine isl_store ?_; refine srl ?_) | (refine isl_alloc ?_; refine all' ?_) | (refine isl_box ?_; refine bxl ?_))
        refine go_drawE (Fr (fun _ => False) w12) 0 Try.follows (by kernel_rfl) (by kernel_rfl) (by kernel_rfl) ((Fr.refl _ _).drewN 1) ?_
        repeat (first | refine sp ?_ | (refine is_load ?_; refine ld ?_) | (refine is_store ?_; refine sr ?_) | (refine is_alloc ?_; refine al ?_) | (refine is_box ?_; refine bx ?_) | (refine isl_load ?_; refine ldl ?_) | (refine isl_store ?_; refine srl ?_) | (refine isl_alloc ?_; refine all' ?_) | (refine isl_box ?_; refine bxl ?_))
        have hwc : ((kdsF D.slots).count (k + 1) : Int) + (roots.count (k + 1) : Int) = wantC D roots k s := by unfold wantC; rw [hon]; rfl
        have hxd : Ext w12 (w12.drewN 1) := (Fr.refl _ _).drewN 1
        clear hdb hea hma hla hha ho hxE
        replace hE := hE.ex hxd
        replace hsl := hsl.ext hxd
        generalize w12.drewN 1 = w13 at *
        refine go_as 15 (u' := .int .i64 (wantC D roots k s)) rfl (by rw [hwc]) ?_
        refine go_as 132 (u' := .bool (wantC D roots k s != s.cnt)) rfl (by rw [hwc]) ?_
        have hE0 := hE
        obtain ⟨hdb, hea, hma, hla, hha, ho, hxE, hlo, hlw⟩ := hE0
        unfold OwnF at ho
        refine go_cut (G := Value × List Fd) [5] (fun ⟨v, _⟩ => [v]) [(1, .slice sa roots.length cap), (2, ptr w.heap.size), (6, .slice (some ⟨eb, 0, none⟩) D.slots.length D.slots.length), (7, .slice (some ⟨mb, 0, none⟩) D.slots.length D.slots.length), (8, .slice (some ⟨lb, 0, none⟩) D.slots.length D.slots.length), (9, .slice (some ⟨hb, 0, none⟩) D.slots.length D.slots.length), (10, .int .i64 (k : Int)), (11, .int .u32 ((k + 1 : Nat) : Int)), (12, ptr bs), (15, .int .i64 (wantC D roots k s))]
          (fun ⟨v', l'⟩ w' => l' = lD ++ fdCnt D roots k s ∧ CkE w w' D roots P (some ⟨b, o, none⟩) s2 c1 c2 eb mb lb hb lo v' l' ∧ At w' bs [.bool true, .int .i64 s.cnt, .int .u32 (s.gen : Int), .int .i64 s.nd.key, .int .i64 s.nd.val, .int .u32 (s.nd.left : Int), .int .u32 (s.nd.right : Int), .int .i64 s.nd.size, .int .i64 s.nd.sum, .int .i64 s.nd.mn, .int .i64 s.nd.mx] 52) ?_ ?_
        · by_cases hc : wantC D roots k s = s.cnt
          · have ef : fdCnt D roots k s = [] := by unfold fdCnt; rw [if_pos hc]
            repeat (first | refine sp ?_ | (refine is_load ?_; refine ld ?_) | (refine is_store ?_; refine sr ?_) | (refine is_alloc ?_; refine al ?_) | (refine is_box ?_; refine bx ?_) | (refine isl_load ?_; refine ldl ?_) | (refine isl_store ?_; refine srl ?_) | (refine isl_alloc ?_; refine all' ?_) | (refine isl_box ?_; refine bxl ?_))
            exact go_stop (G := Value × List Fd) (_, lD) rfl ⟨rfl, rfl, rfl, rfl, rfl, rfl, rfl, rfl, rfl, rfl, trivial⟩ ⟨by rw [ef, List.append_nil], hE, hsl⟩ trivial
          · have ef : fdCnt D roots k s = [⟨4, k + 1, wantC D roots k s, s.cnt⟩] := by unfold fdCnt; rw [if_neg hc]
            repeat (first | refine sp ?_ | (refine is_load ?_; refine ld ?_) | (refine is_store ?_; refine sr ?_) | (refine is_alloc ?_; refine al ?_) | (refine is_box ?_; refine bx ?_) | (refine isl_load ?_; refine ldl ?_) | (refine isl_store ?_; refine srl ?_) | (refine isl_alloc ?_; refine all' ?_) | (refine isl_box ?_; refine bxl ?_))
            refine go_pushG (l := [.int .i64 4, .int .u32 ((k + 1 : Nat) : Int), .int .i64 (wantC D roots k s), .int .i64 s.cnt]) (by decide) rfl rfl rfl rfl ho rfl (fd_one ⟨4, k + 1, wantC D roots k s, s.cnt⟩) (by omega) (by simp [maxLen]; omega) (by omega) (by omega) ?_
            intro vv ww hoo hgg _
            have hE1 := hE.push (f := ⟨4, k + 1, wantC D roots k s, s.cnt⟩) hoo hgg
            have hsl1 := hsl.fr (Fr.of_grown hgg) (hE.out.nec hsl (by decide))
            repeat (first | refine sp ?_ | (refine is_load ?_; refine ld ?_) | (refine is_store ?_; refine sr ?_) | (refine is_alloc ?_; refine al ?_) | (refine is_box ?_; refine bx ?_) | (refine isl_load ?_; refine ldl ?_) | (refine isl_store ?_; refine srl ?_) | (refine isl_alloc ?_; refine all' ?_) | (refine isl_box ?_; refine bxl ?_))
            exact go_stop (G := Value × List Fd) (vv, _) rfl ⟨rfl, rfl, rfl, rfl, rfl, rfl, rfl, rfl, rfl, rfl, trivial⟩ ⟨by rw [ef], hE1, hsl1⟩ trivial
        clear hE hsl hdb hea hma hla hha ho hxE
        rintro ⟨v3, l3⟩ w10 ⟨rfl, hE, hsl⟩
        have hl3 : (lD ++ fdCnt D roots k s).length ≤ 6000005 := by
          have := fdCnt_len D roots k s
          rw [List.length_append]; omega
        generalize hlC : lD ++ fdCnt D roots k s = lC at *
        have hE0 := hE
        obtain ⟨hdb, hea, hma, hla, hha, ho, hxE, hlo, hlw⟩ := hE0
        unfold OwnF at ho
        obtain ⟨sv, cv, rfl, _, _⟩ := ho.slice
        cases hp : P k with
        | true =>
          rw [hp] at hcM
          repeat (first | refine sp ?_ | (refine is_load ?_; refine ld ?_) | (refine is_store ?_; refine sr ?_) | (refine is_alloc ?_; refine al ?_) | (refine is_box ?_; refine bx ?_) | (refine isl_load ?_; refine ldl ?_) | (refine isl_store ?_; refine srl ?_) | (refine isl_alloc ?_; refine all' ?_) | (refine isl_box ?_; refine bxl ?_))
          exact go_stop (G := Nat × Value × List Fd) (k + 1, _, lC) rfl ⟨rfl, rfl, rfl, rfl, rfl, rfl, trivial⟩ ⟨hlt, by rw [hsucc, ← hlC, ← hlD, hlB, ← hlA]; simp [fdSlot, fdMid, fdLeak, hon, hp], hE⟩ (by show D.slots.length - (k + 1) < D.slots.length - k; omega)
        | false =>
          rw [hp] at hcM
          repeat (first | refine sp ?_ | (refine is_load ?_; refine ld ?_) | (refine is_store ?_; refine sr ?_) | (refine is_alloc ?_; refine al ?_) | (refine is_box ?_; refine bx ?_) | (refine isl_load ?_; refine ldl ?_) | (refine isl_store ?_; refine srl ?_) | (refine isl_alloc ?_; refine all' ?_) | (refine isl_box ?_; refine bxl ?_))
          refine go_pushG (l := [.int .i64 5, .int .u32 ((k + 1 : Nat) : Int), .int .i64 0, .int .i64 0]) (by decide) rfl rfl rfl rfl ho rfl (fd_one ⟨5, k + 1, 0, 0⟩) (by omega) (by simp [maxLen]; omega) (by omega) (by omega) ?_
          intro vv ww hoo hgg _
          have hE1 := hE.push (f := ⟨5, k + 1, 0, 0⟩) hoo hgg
          have hsl1 := hsl.fr (Fr.of_grown hgg) (hE.out.nec hsl (by decide))
          repeat (first | refine sp ?_ | (refine is_load ?_; refine ld ?_) | (refine is_store ?_; refine sr ?_) | (refine is_alloc ?_; refine al ?_) | (refine is_box ?_; refine bx ?_) | (refine isl_load ?_; refine ldl ?_) | (refine isl_store ?_; refine srl ?_) | (refine isl_alloc ?_; refine all' ?_) | (refine isl_box ?_; refine bxl ?_))
          exact go_stop (G := Nat × Value × List Fd) (k + 1, vv, _) rfl ⟨rfl, rfl, rfl, rfl, rfl, rfl, trivial⟩ ⟨hlt, by rw [hsucc, ← hlC, ← hlD, hlB, ← hlA]; simp [fdSlot, fdMid, fdLeak, hon, hp], hE1⟩ (by show D.slots.length - (k + 1) < D.slots.length - k; omega)
  · obtain rfl : k = D.slots.length := by omega
    have hll : (fdSlots D roots P D.slots.length).length ≤ 6000000 := by have := fdSlots_len D roots P D.slots.length; omega
    rw [← hl] at hll
    have hE0 := hE
    obtain ⟨hdb, hea, hma, hla, hha, ho, hxE, hlo, hlw⟩ := hE0
    unfold OwnF at ho
    obtain ⟨sv, cv, rfl, _, _⟩ := ho.slice
    repeat (first | refine sp ?_ | (refine is_load ?_; refine ld ?_) | (refine is_store ?_; refine sr ?_) | (refine is_alloc ?_; refine al ?_) | (refine is_box ?_; refine bx ?_) | (refine isl_load ?_; refine ldl ?_) | (refine isl_store ?_; refine srl ?_) | (refine isl_alloc ?_; refine all' ?_) | (refine isl_box ?_; refine bxl ?_))
    refine go_loop (G := Nat × Value × List Fd) [19, 5] (fun ⟨j, v, _⟩ => [.int .i64 (j : Int), v]) [(1, .slice sa roots.length cap), (2, ptr w.heap.size)]
      (fun ⟨j, v, l'⟩ w' => j ≤ D.free.length ∧ l' = l ++ (D.free.take j).flatMap (fdRange D) ∧ CkE w w' D roots P s1 s2 c1 c2 eb mb lb hb lo v l') (fun g => D.free.length - g.1) (0, _, l) rfl ⟨rfl, rfl, trivial⟩ ⟨by omega, by simp, hE⟩ ?_
    clear hE hdb hea hma hla hha ho hxE
    rintro ⟨j, v, l1⟩ w7 ⟨hj, hl1, hE⟩
    have hl1l : l1.length ≤ 7000000 := by
      have := flatMap_le (fdRange D) 1 (fun _ => ite_le2) (D.free.take j)
      rw [List.length_take] at this
      rw [hl1, List.length_append]; omega
    have hE0 := hE
    obtain ⟨hdb, hea, hma, hla, hha, ho, hxE, hlo, hlw⟩ := hE0
    unfold OwnF at ho
    obtain ⟨sv, cv, rfl, _, _⟩ := ho.slice
    by_cases hlt : j < D.free.length
    · obtain ⟨b, o, e, hbl, hcell⟩ := (hf'.ext hE.ext).at (m := 1) (fun _ => rfl) (by omega) hlt
      subst e
      have hfb := hok.fr _ (List.getElem_mem hlt)
      have hts : (D.free.take (j + 1)).flatMap (fdRange D) = (D.free.take j).flatMap (fdRange D) ++ fdRange D D.free[j] := by
        rw [List.take_succ_eq_append_getElem hlt, List.flatMap_append]; congr 1; simp only [List.flatMap_cons, List.flatMap_nil, List.append_nil]
      have e0 : w7.cell? ⟨b, o + j, none⟩ = some (.int .u32 (D.free[j] : Int)) := by have := hcell 0 (.int .u32 (D.free[j] : Int)) rfl; simpa using this
      generalize D.free[j] = x at *
      have hxd : Ext w7 (w7.drewN 1) := (Fr.refl _ _).drewN 1
      repeat (first | refine sp ?_ | (refine is_load ?_; refine ld ?_) | (refine is_store ?_; refine sr ?_) | (refine is_alloc ?_; refine al ?_) | (refine is_box ?_; refine bx ?_) | (refine isl_load ?_; refine ldl ?_) | (refine isl_store ?_; refine srl ?_) | (refine isl_alloc ?_; refine all' ?_) | (refine isl_box ?_; refine bxl ?_))
      refine go_drawE (Fr (fun _ => False) w7) 0 Try.follows (by kernel_rfl) (by kernel_rfl) (by kernel_rfl) ((Fr.refl _ _).drewN 1) ?_
      clear hea hma hla hha hxE
      by_cases h0 : x = 0
      · have ef : fdRange D x = [⟨6, x, 0, 0⟩] := by unfold fdRange; rw [if_pos (Or.inl h0)]
        repeat (first | refine sp ?_ | (refine is_load ?_; refine ld ?_) | (refine is_store ?_; refine sr ?_) | (refine is_alloc ?_; refine al ?_) | (refine is_box ?_; refine bx ?_) | (refine isl_load ?_; refine ldl ?_) | (refine isl_store ?_; refine srl ?_) | (refine isl_alloc ?_; refine all' ?_) | (refine isl_box ?_; refine bxl ?_))
        replace hE := hE.ex hxd
        have ho := hE.out
        unfold OwnF at ho
        have e1 := Fr.cell (S := fun _ => False) hxd e0 id
        have hdb1 := hE.db
        generalize w7.drewN 1 = w8 at *
        have hlw8 := hE.lw
        repeat (first | refine sp ?_ | (refine is_load ?_; refine ld ?_) | (refine is_store ?_; refine sr ?_) | (refine is_alloc ?_; refine al ?_) | (refine is_box ?_; refine bx ?_) | (refine isl_load ?_; refine ldl ?_) | (refine isl_store ?_; refine srl ?_) | (refine isl_alloc ?_; refine all' ?_) | (refine isl_box ?_; refine bxl ?_))
        refine go_pushG (l := [.int .i64 6, .int .u32 (x : Int), .int .i64 0, .int .i64 0]) (by decide) rfl rfl rfl rfl ho rfl (fd_one ⟨6, x, 0, 0⟩) (by omega) (by simp [maxLen]; omega) (by omega) (by omega) ?_
        intro vv ww hoo hgg _
        have hE1 := hE.push (f := ⟨6, x, 0, 0⟩) hoo hgg
        repeat (first | refine sp ?_ | (refine is_load ?_; refine ld ?_) | (refine is_store ?_; refine sr ?_) | (refine is_alloc ?_; refine al ?_) | (refine is_box ?_; refine bx ?_) | (refine isl_load ?_; refine ldl ?_) | (refine isl_store ?_; refine srl ?_) | (refine isl_alloc ?_; refine all' ?_) | (refine isl_box ?_; refine bxl ?_))
        exact go_stop (G := Nat × Value × List Fd) (j + 1, vv, _) rfl ⟨rfl, rfl, trivial⟩ ⟨hlt, by rw [hts, ef, hl1, List.append_assoc], hE1⟩ (by show D.free.length - (j + 1) < D.free.length - j; omega)
      by_cases hn : D.slots.length < x
      · have ef : fdRange D x = [⟨6, x, 0, 0⟩] := by unfold fdRange; rw [if_pos (Or.inr hn)]
        repeat (first | refine sp ?_ | (refine is_load ?_; refine ld ?_) | (refine is_store ?_; refine sr ?_) | (refine is_alloc ?_; refine al ?_) | (refine is_box ?_; refine bx ?_) | (refine isl_load ?_; refine ldl ?_) | (refine isl_store ?_; refine srl ?_) | (refine isl_alloc ?_; refine all' ?_) | (refine isl_box ?_; refine bxl ?_))
        replace hE := hE.ex hxd
        have ho := hE.out
        unfold OwnF at ho
        have e1 := Fr.cell (S := fun _ => False) hxd e0 id
        have hdb1 := hE.db
        generalize w7.drewN 1 = w8 at *
        have hlw8 := hE.lw
        repeat (first | refine sp ?_ | (refine is_load ?_; refine ld ?_) | (refine is_store ?_; refine sr ?_) | (refine is_alloc ?_; refine al ?_) | (refine is_box ?_; refine bx ?_) | (refine isl_load ?_; refine ldl ?_) | (refine isl_store ?_; refine srl ?_) | (refine isl_alloc ?_; refine all' ?_) | (refine isl_box ?_; refine bxl ?_))
        refine go_pushG (l := [.int .i64 6, .int .u32 (x : Int), .int .i64 0, .int .i64 0]) (by decide) rfl rfl rfl rfl ho rfl (fd_one ⟨6, x, 0, 0⟩) (by omega) (by simp [maxLen]; omega) (by omega) (by omega) ?_
        intro vv ww hoo hgg _
        have hE1 := hE.push (f := ⟨6, x, 0, 0⟩) hoo hgg
        repeat (first | refine sp ?_ | (refine is_load ?_; refine ld ?_) | (refine is_store ?_; refine sr ?_) | (refine is_alloc ?_; refine al ?_) | (refine is_box ?_; refine bx ?_) | (refine isl_load ?_; refine ldl ?_) | (refine isl_store ?_; refine srl ?_) | (refine isl_alloc ?_; refine all' ?_) | (refine isl_box ?_; refine bxl ?_))
        exact go_stop (G := Nat × Value × List Fd) (j + 1, vv, _) rfl ⟨rfl, rfl, trivial⟩ ⟨hlt, by rw [hts, ef, hl1, List.append_assoc], hE1⟩ (by show D.free.length - (j + 1) < D.free.length - j; omega)
      · have ef : fdRange D x = [] := by unfold fdRange; rw [if_neg (by omega)]
        repeat (first | refine sp ?_ | (refine is_load ?_; refine ld ?_) | (refine is_store ?_; refine sr ?_) | (refine is_alloc ?_; refine al ?_) | (refine is_box ?_; refine bx ?_) | (refine isl_load ?_; refine ldl ?_) | (refine isl_store ?_; refine srl ?_) | (refine isl_alloc ?_; refine all' ?_) | (refine isl_box ?_; refine bxl ?_))
        exact go_stop (G := Nat × Value × List Fd) (j + 1, _, l1) rfl ⟨rfl, rfl, trivial⟩ ⟨hlt, by rw [hts, ef, hl1, List.append_nil], hE.ex hxd⟩ (by show D.free.length - (j + 1) < D.free.length - j; omega)
    obtain rfl : j = D.free.length := by omega
    rw [List.take_length] at hl1
    repeat (first | refine sp ?_ | (refine is_load ?_; refine ld ?_) | (refine is_store ?_; refine sr ?_) | (refine is_alloc ?_; refine al ?_) | (refine is_box ?_; refine bx ?_) | (refine isl_load ?_; refine ldl ?_) | (refine isl_store ?_; refine srl ?_) | (refine isl_alloc ?_; refine all' ?_) | (refine isl_box ?_; refine bxl ?_))
    refine go_loop (G := Nat × Value × List Fd) [20, 5] (fun ⟨j, v, _⟩ => [.int .i64 (j : Int), v]) [(1, .slice sa roots.length cap), (2, ptr w.heap.size)]
      (fun ⟨j, v, l'⟩ w' => j ≤ roots.length ∧ l' = l1 ++ (roots.take j).flatMap (fdRoot D) ∧ CkE w w' D roots P s1 s2 c1 c2 eb mb lb hb lo v l') (fun g => roots.length - g.1) (0, _, l1) rfl ⟨rfl, rfl, trivial⟩ ⟨by omega, by simp, hE⟩ ?_
    clear hE hdb hea hma hla hha ho hxE
    rintro ⟨j, v, l2⟩ w8 ⟨hj, hl2, hE⟩
    have hl2l : l2.length ≤ 8000000 := by
      have := flatMap_le (fdRoot D) 1 (fun _ => ite_le2) (roots.take j)
      rw [List.length_take] at this
      rw [hl2, List.length_append]; omega
    have hE0 := hE
    obtain ⟨hdb, hea, hma, hla, hha, ho, hxE, hlo, hlw⟩ := hE0
    unfold OwnF at ho
    obtain ⟨sv, cv, rfl, _, _⟩ := ho.slice
    by_cases hlt : j < roots.length
    · obtain ⟨b, o, e, hbl, hcell⟩ := (hr'.ext hE.ext).at (m := 1) (fun _ => rfl) (by omega) hlt
      subst e
      have hfb := hrb _ (List.getElem_mem hlt)
      have hts : (roots.take (j + 1)).flatMap (fdRoot D) = (roots.take j).flatMap (fdRoot D) ++ fdRoot D roots[j] := by
        rw [List.take_succ_eq_append_getElem hlt, List.flatMap_append]; congr 1; simp only [List.flatMap_cons, List.flatMap_nil, List.append_nil]
      have e0 : w8.cell? ⟨b, o + j, none⟩ = some (.int .u32 (roots[j] : Int)) := by have := hcell 0 (.int .u32 (roots[j] : Int)) rfl; simpa using this
      generalize roots[j] = x at *
      have hxd : Ext w8 (w8.drewN 1) := (Fr.refl _ _).drewN 1
      repeat (first | refine sp ?_ | (refine is_load ?_; refine ld ?_) | (refine is_store ?_; refine sr ?_) | (refine is_alloc ?_; refine al ?_) | (refine is_box ?_; refine bx ?_) | (refine isl_load ?_; refine ldl ?_) | (refine isl_store ?_; refine srl ?_) | (refine isl_alloc ?_; refine all' ?_) | (refine isl_box ?_; refine bxl ?_))
      refine go_drawE (Fr (fun _ => False) w8) 0 Try.follows (by kernel_rfl) (by kernel_rfl) (by kernel_rfl) ((Fr.refl _ _).drewN 1) ?_
      by_cases h0 : x = 0
      · have ef : fdRoot D x = [] := by unfold fdRoot; rw [if_neg (fun h => h.1 h0)]
        repeat (first | refine sp ?_ | (refine is_load ?_; refine ld ?_) | (refine is_store ?_; refine sr ?_) | (refine is_alloc ?_; refine al ?_) | (refine is_box ?_; refine bx ?_) | (refine isl_load ?_; refine ldl ?_) | (refine isl_store ?_; refine srl ?_) | (refine isl_alloc ?_; refine all' ?_) | (refine isl_box ?_; refine bxl ?_))
        exact go_stop (G := Nat × Value × List Fd) (j + 1, _, l2) rfl ⟨rfl, rfl, trivial⟩ ⟨hlt, by rw [hts, ef, hl2, List.append_nil], hE.ex hxd⟩ (by show roots.length - (j + 1) < roots.length - j; omega)
      repeat (first | refine sp ?_ | (refine is_load ?_; refine ld ?_) | (refine is_store ?_; refine sr ?_) | (refine is_alloc ?_; refine al ?_) | (refine is_box ?_; refine bx ?_) | (refine isl_load ?_; refine ldl ?_) | (refine isl_store ?_; refine srl ?_) | (refine isl_alloc ?_; refine all' ?_) | (refine isl_box ?_; refine bxl ?_))
      refine gol_call rfl rfl (c_Allocated _ lo0 _ D x (hd0.ext (hE.ext.trans hxd)) (by omega) hfb) ?_
      rintro _ w9 ⟨rfl, hx9⟩
      have hx9' : Ext w8 w9 := hxd.trans hx9
      refine ⟨hx9', ?_⟩
      clear hdb hea hma hla hha ho hxE
      replace hE := hE.ex hx9'
      cases hal : D.al x with
      | true =>
        have ef : fdRoot D x = [] := by unfold fdRoot; rw [if_neg (fun h => by rw [hal] at h; cases h.2)]
        repeat (first | refine sp ?_ | (refine is_load ?_; refine ld ?_) | (refine is_store ?_; refine sr ?_) | (refine is_alloc ?_; refine al ?_) | (refine is_box ?_; refine bx ?_) | (refine isl_load ?_; refine ldl ?_) | (refine isl_store ?_; refine srl ?_) | (refine isl_alloc ?_; refine all' ?_) | (refine isl_box ?_; refine bxl ?_))
        exact go_stop (G := Nat × Value × List Fd) (j + 1, _, l2) rfl ⟨rfl, rfl, trivial⟩ ⟨hlt, by rw [hts, ef, hl2, List.append_nil], hE⟩ (by show roots.length - (j + 1) < roots.length - j; omega)
      | false =>
        have ef : fdRoot D x = [⟨7, x, 0, 0⟩] := by unfold fdRoot; rw [if_pos ⟨h0, hal⟩]
        have e1 := Fr.cell (S := fun _ => False) hx9' e0 id
        have ho := hE.out
        unfold OwnF at ho
        have hlw9 := hE.lw
        repeat (first | refine sp ?_ | (refine is_load ?_; refine ld ?_) | (refine is_store ?_; refine sr ?_) | (refine is_alloc ?_; refine al ?_) | (refine is_box ?_; refine bx ?_) | (refine isl_load ?_; refine ldl ?_) | (refine isl_store ?_; refine srl ?_) | (refine isl_alloc ?_; refine all' ?_) | (refine isl_box ?_; refine bxl ?_))
        refine go_pushG (l := [.int .i64 7, .int .u32 (x : Int), .int .i64 0, .int .i64 0]) (by decide) rfl rfl rfl rfl ho rfl (fd_one ⟨7, x, 0, 0⟩) (by omega) (by simp [maxLen]; omega) (by omega) (by omega) ?_
        intro vv ww hoo hgg _
        have hE1 := hE.push (f := ⟨7, x, 0, 0⟩) hoo hgg
        repeat (first | refine sp ?_ | (refine is_load ?_; refine ld ?_) | (refine is_store ?_; refine sr ?_) | (refine is_alloc ?_; refine al ?_) | (refine is_box ?_; refine bx ?_) | (refine isl_load ?_; refine ldl ?_) | (refine isl_store ?_; refine srl ?_) | (refine isl_alloc ?_; refine all' ?_) | (refine isl_box ?_; refine bxl ?_))
        exact go_stop (G := Nat × Value × List Fd) (j + 1, vv, _) rfl ⟨rfl, rfl, trivial⟩ ⟨hlt, by rw [hts, ef, hl2, List.append_assoc], hE1⟩ (by show roots.length - (j + 1) < roots.length - j; omega)
    obtain rfl : j = roots.length := by omega
    rw [List.take_length] at hl2
    repeat (first | refine sp ?_ | (refine is_load ?_; refine ld ?_) | (refine is_store ?_; refine sr ?_) | (refine is_alloc ?_; refine al ?_) | (refine is_box ?_; refine bx ?_) | (refine isl_load ?_; refine ldl ?_) | (refine isl_store ?_; refine srl ?_) | (refine isl_alloc ?_; refine all' ?_) | (refine isl_box ?_; refine bxl ?_))
    exact go_ret1 rfl rfl ⟨_, rfl, P, lo, hlo, by rw [show finds D roots P = l2 by rw [hl2, hl1, hl]; rfl]; exact hE.out, hP, hE.ext⟩

end Go.Proofs.Ytapocbahkeoeoaa
