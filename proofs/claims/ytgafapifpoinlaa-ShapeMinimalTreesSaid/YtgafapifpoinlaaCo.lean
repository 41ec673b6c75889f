/-
  The reference's audit of a dump: the findings.
-/
import Derived.Test.YtgafapifpoinlaaCn
set_option linter.unusedVariables false
namespace Go.Proofs.Ytgafapifpoinlaa
open Go.Vc

structure Fd where
  kind : Int
  slot : Nat
  want : Int
  have_ : Int
def Fd.cells (f : Fd) : List Value := [.int .i64 f.kind, .int .u32 (f.slot : Int), .int .i64 f.want, .int .i64 f.have_]
theorem fd_len (f : Fd) : f.cells.length = 4 := rfl
theorem fd_one (f : Fd) : ∀ u ∈ f.cells, u.oneCell' = true := by
  intro u hu
  simp only [Fd.cells, List.mem_cons, List.not_mem_nil, or_false] at hu
  rcases hu with rfl | rfl | rfl | rfl <;> rfl

def OwnF (w : World) (lo : Nat) (v : Value) (l : List Fd) : Prop := Own w lo 0 4 v l.length (l.flatMap Fd.cells)

def Dp.szAt (D : Dp) : Nat → Int
  | 0 => 0
  | j + 1 => match D.slots[j]? with
    | some s => s.nd.size
    | none => 0
def szAdd (D : Dp) (z : Int) (c : Nat) : Int := if D.al c = true then w64 (z + D.szAt c) else z
def fdKid (D : Dp) (i c : Nat) : List Fd := if D.al c = true then [] else if c = 0 then [] else [⟨2, i, 0, (c : Int)⟩]
def szK (D : Dp) (s : Slt) (k : Nat) : Int := (s.kd.take k).foldl (szAdd D) 1
def fdK (D : Dp) (i : Nat) (s : Slt) (k : Nat) : List Fd := (s.kd.take k).flatMap (fdKid D i)
def fdFree (D : Dp) (n : Nat) (s : Slt) : List Fd :=
  if (D.free.count (n + 1) : Int) = (if s.on = true then 0 else 1) then [] else [⟨1, n + 1, if s.on = true then 0 else 1, (D.free.count (n + 1) : Int)⟩]
def fdSize (D : Dp) (n : Nat) (s : Slt) : List Fd := if szK D s 2 = s.nd.size then [] else [⟨3, n + 1, szK D s 2, s.nd.size⟩]
def wantC (D : Dp) (roots : List Nat) (n : Nat) (s : Slt) : Int := if s.on = true then ((kdsF D.slots).count (n + 1) : Int) + (roots.count (n + 1) : Int) else 0
def fdCnt (D : Dp) (roots : List Nat) (n : Nat) (s : Slt) : List Fd := if wantC D roots n s = s.cnt then [] else [⟨4, n + 1, wantC D roots n s, s.cnt⟩]
def fdLeak (P : Nat → Bool) (n : Nat) (s : Slt) : List Fd := if s.on = true ∧ P n = false then [⟨5, n + 1, 0, 0⟩] else []
def fdMid (D : Dp) (n : Nat) (s : Slt) : List Fd := if s.on = true then fdK D (n + 1) s 2 ++ fdSize D n s else []
def fdSlot (D : Dp) (roots : List Nat) (P : Nat → Bool) (n : Nat) (s : Slt) : List Fd := fdFree D n s ++ fdMid D n s ++ fdCnt D roots n s ++ fdLeak P n s
def fdRange (D : Dp) (i : Nat) : List Fd := if i = 0 ∨ D.slots.length < i then [⟨6, i, 0, 0⟩] else []
def fdRoot (D : Dp) (r : Nat) : List Fd := if r ≠ 0 ∧ D.al r = false then [⟨7, r, 0, 0⟩] else []
def fdSlots (D : Dp) (roots : List Nat) (P : Nat → Bool) (k : Nat) : List Fd := (List.range k).flatMap fun j => match D.slots[j]? with
  | some s => fdSlot D roots P j s
  | none => []
/-- The findings of a dump. -/
def finds (D : Dp) (roots : List Nat) (P : Nat → Bool) : List Fd := fdSlots D roots P D.slots.length ++ D.free.flatMap (fdRange D) ++ roots.flatMap (fdRoot D)

theorem ite_le1 {c : Prop} [Decidable c] {f : Fd} : (if c then [] else [f]).length ≤ 1 := by
  split
  · exact Nat.zero_le _
  · exact Nat.le_refl _
theorem ite_le2 {c : Prop} [Decidable c] {f : Fd} : (if c then [f] else []).length ≤ 1 := by
  split
  · exact Nat.le_refl _
  · exact Nat.zero_le _
theorem fdKid_len (D : Dp) (n c : Nat) : (fdKid D n c).length ≤ 1 := by
  unfold fdKid
  split
  · exact Nat.zero_le _
  · exact ite_le1
theorem fdK_len (D : Dp) (n : Nat) (s : Slt) : (fdK D n s 2).length ≤ 2 := by
  have := fdKid_len D n s.nd.left
  have := fdKid_len D n s.nd.right
  simp only [fdK, Slt.kd, List.take, List.flatMap_cons, List.flatMap_nil, List.length_append, List.append_nil]
  omega
theorem fdFree_len (D : Dp) (n : Nat) (s : Slt) : (fdFree D n s).length ≤ 1 := ite_le1
theorem fdSize_len (D : Dp) (n : Nat) (s : Slt) : (fdSize D n s).length ≤ 1 := ite_le1
theorem fdCnt_len (D : Dp) (roots : List Nat) (n : Nat) (s : Slt) : (fdCnt D roots n s).length ≤ 1 := ite_le1
theorem fdSlot_len (D : Dp) (roots : List Nat) (P : Nat → Bool) (n : Nat) (s : Slt) : (fdSlot D roots P n s).length ≤ 6 := by
  have h1 := fdFree_len D n s
  have h2 : (fdMid D n s).length ≤ 3 := by
    have := fdK_len D (n + 1) s
    have := fdSize_len D n s
    unfold fdMid
    split
    · rw [List.length_append]; omega
    · exact Nat.zero_le _
  have h4 := fdCnt_len D roots n s
  have h5 : (fdLeak P n s).length ≤ 1 := ite_le2
  unfold fdSlot
  simp only [List.length_append]
  omega
theorem flatMap_le {α β : Type} (f : α → List β) (m : Nat) (h : ∀ a, (f a).length ≤ m) : ∀ l : List α, (l.flatMap f).length ≤ m * l.length
  | [] => by simp
  | a :: l => by
    have := flatMap_le f m h l
    have := h a
    rw [List.flatMap_cons, List.length_append, List.length_cons, Nat.mul_succ]; omega
theorem fdSlots_len (D : Dp) (roots : List Nat) (P : Nat → Bool) (k : Nat) : (fdSlots D roots P k).length ≤ 6 * k := by
  have := flatMap_le (fun j => match D.slots[j]? with
    | some s => fdSlot D roots P j s
    | none => []) 6 (fun j => by
      split
      · exact fdSlot_len _ _ _ _ _
      · exact Nat.zero_le _) (List.range k)
  rw [List.length_range] at this
  exact this
theorem fdSlots_succ {D : Dp} {roots : List Nat} {P : Nat → Bool} {k : Nat} {s : Slt} (h : D.slots[k]? = some s) : fdSlots D roots P (k + 1) = fdSlots D roots P k ++ fdSlot D roots P k s := by
  unfold fdSlots
  rw [List.range_succ, List.flatMap_append]
  congr 1
  simp only [List.flatMap_cons, List.flatMap_nil, List.append_nil, h]

/-- What stays while the findings are written. -/
structure CkE (w0 w : World) (D : Dp) (roots : List Nat) (P : Nat → Bool) (s1 s2 : Option Addr) (c1 c2 eb mb lb hb lo : Nat) (v : Value) (l : List Fd) : Prop where
  db : At w w0.heap.size [.slice s1 D.slots.length c1, .slice s2 D.free.length c2] 60
  e : At w eb (cellsF (fun j => [.int .i64 ((kdsF D.slots).count (j + 1) : Int)]) D.slots.length) 3
  m : At w mb (cellsF (fun j => [.bool (P j)]) D.slots.length) 4
  li : At w lb (cellsF (fun j => [.int .i64 (D.free.count (j + 1) : Int)]) D.slots.length) 3
  he : At w hb (cellsF (fun j => [.int .i64 (roots.count (j + 1) : Int)]) D.slots.length) 3
  out : OwnF w lo v l
  ext : Ext w0 w
  lo' : w0.heap.size ≤ lo
  lw : lo ≤ w.heap.size

theorem CkE.ex {w0 w w' : World} {D : Dp} {roots : List Nat} {P : Nat → Bool} {s1 s2 : Option Addr} {c1 c2 eb mb lb hb lo : Nat} {v : Value} {l : List Fd} (h : CkE w0 w D roots P s1 s2 c1 c2 eb mb lb hb lo v l) (f : Ext w w') : CkE w0 w' D roots P s1 s2 c1 c2 eb mb lb hb lo v l :=
  ⟨h.db.ext f, h.e.ext f, h.m.ext f, h.li.ext f, h.he.ext f, Own.ext h.out f, h.ext.trans f, h.lo', Nat.le_trans h.lw f.size⟩
end Go.Proofs.Ytgafapifpoinlaa
