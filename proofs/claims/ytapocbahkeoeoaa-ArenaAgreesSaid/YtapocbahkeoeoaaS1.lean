/-
  Arrays of records as lists of cells; the state of an arena, and what its operations do to it. No program in sight.
-/
import Derived.Test.YtapocbahkeoeoaaSl
set_option linter.unusedVariables false
namespace Go.Vc

end Go.Vc
namespace Go.Proofs.Ytapocbahkeoeoaa
open Go.Vc

def w64 (z : Int) : Int := IntKind.i64.wrap z
theorem w64_in {z : Int} (h : -9223372036854775808 ≤ z ∧ z ≤ 9223372036854775807) : w64 z = z := wrap_in h
theorem w64_bd (z : Int) : -9223372036854775808 ≤ w64 z ∧ w64 z ≤ 9223372036854775807 := by
  unfold w64
  simp [IntKind.wrap, IntKind.bits, IntKind.signed]
  omega

/-- The content of a slot. -/
structure Nd where
  key : Int
  val : Int
  left : Nat
  right : Nat
  size : Int
  sum : Int
  mn : Int
  mx : Int

instance : DecidableEq Nd := fun a b => if h : a.key = b.key ∧ a.val = b.val ∧ a.left = b.left ∧ a.right = b.right ∧ a.size = b.size ∧ a.sum = b.sum ∧ a.mn = b.mn ∧ a.mx = b.mx then
    isTrue (by cases a; cases b; simp_all)
  else isFalse (by rintro rfl; exact h ⟨rfl, rfl, rfl, rfl, rfl, rfl, rfl, rfl⟩)

def Nd.zero : Nd := ⟨0, 0, 0, 0, 0, 0, 0, 0⟩
def Nd.cells (x : Nd) : List Value := [.int .i64 x.key, .int .i64 x.val, .int .u32 (x.left : Int), .int .u32 (x.right : Int), .int .i64 x.size, .int .i64 x.sum, .int .i64 x.mn, .int .i64 x.mx]

/-- The state of an arena. 'rel': the released slots, the last one at the end. -/
structure AR where
  cap : Nat
  used : Nat → Bool
  gen : Nat → Nat
  rel : List Nat
  fresh : Nat
  node : Nat → Nd
  cnt : Nat → Int
  reads : Nat

def AR.new (n : Nat) : AR := ⟨n, fun _ => false, fun _ => 0, [], 0, fun _ => Nd.zero, fun _ => 0, 0⟩
def AR.free (A : AR) : Nat := A.rel.length + A.cap - A.fresh

structure Wf (A : AR) : Prop where
  cap1 : 1 ≤ A.cap
  capM : A.cap ≤ 65536
  fr : A.fresh ≤ A.cap
  rl : ∀ i ∈ A.rel, 1 ≤ i ∧ i ≤ A.fresh ∧ A.used i = false
  nd : A.rel.Nodup
  uf : ∀ i, A.used i = true → 1 ≤ i ∧ i ≤ A.fresh
  al : ∀ i, 1 ≤ i → i ≤ A.fresh → A.used i = false → i ∈ A.rel
  gn : ∀ i, A.gen i < 4294967296

/-- The nodes of allocated slots have children within the arena and sizes within the bounds. -/
structure NdOk (A : AR) : Prop where
  ch : ∀ i, A.used i = true → (A.node i).left ≤ A.cap ∧ (A.node i).right ≤ A.cap
  sz : ∀ i, A.used i = true → 1 ≤ (A.node i).size ∧ (A.node i).size ≤ 2147483647

theorem Wf.u0 {A : AR} (h : Wf A) : A.used 0 = false := by
  cases e : A.used 0 with
  | false => rfl
  | true => have := h.uf 0 e; omega

theorem Wf.new {n : Nat} (h1 : 1 ≤ n) (h2 : n ≤ 65536) : Wf (AR.new n) :=
  ⟨h1, h2, Nat.zero_le _, by simp [AR.new], by simp [AR.new], by simp [AR.new], by simp [AR.new]; omega, by simp [AR.new]⟩
theorem NdOk.new {n : Nat} : NdOk (AR.new n) := ⟨by simp [AR.new], by simp [AR.new]⟩

/-- The slot that is allocated next. -/
def AR.top (A : AR) : Nat := match A.rel.getLast? with
  | some i => i
  | none => A.fresh + 1

def AR.take (A : AR) : AR := { A with used := upd A.used A.top true, gen := upd A.gen A.top ((A.gen A.top + 1) % 4294967296), rel := A.rel.dropLast, fresh := if A.rel = [] then A.fresh + 1 else A.fresh }

def addC (A : AR) (c : Nat) (n : Nd) : Nd := if c = 0 then n else
  { n with size := w64 (n.size + (A.node c).size), sum := w64 (n.sum + (A.node c).sum), mn := min n.mn (A.node c).mn, mx := max n.mx (A.node c).mx }

def mkN (A : AR) (k v : Int) (l r : Nat) : Nd := addC A r (addC A l ⟨k, v, l, r, 1, v, v, v⟩)

def AR.inc (A : AR) (i : Nat) : AR := { A with cnt := upd A.cnt i (w64 (A.cnt i + 1)) }

def AR.put (A : AR) (n : Nd) : AR := { A.take with node := upd A.node A.top n, cnt := upd A.cnt A.top 1 }

/-- 'Make': the error; the state. -/
def AR.makeE (A : AR) (k v : Int) (l r : Nat) : Int :=
  if (l ≠ 0 ∧ A.used l = false) ∨ (r ≠ 0 ∧ A.used r = false) ∨ 2147483647 < (mkN A k v l r).size then 1 else if A.free = 0 then 2 else 0
def AR.make (A : AR) (k v : Int) (l r : Nat) : AR := if A.makeE k v l r = 0 then ((A.put (mkN A k v l r)).inc l).inc r else A
def AR.makeI (A : AR) (k v : Int) (l r : Nat) : Nat := if A.makeE k v l r = 0 then A.top else 0

def AR.read (A : AR) (i : Nat) : AR := if A.used i = true then { A with reads := (A.reads + 1) % 18446744073709551616 } else A
def AR.nodeOf (A : AR) (i : Nat) : Nd := if A.used i = true then A.node i else Nd.zero
def AR.sizeOf (A : AR) (i : Nat) : Int := if A.used i = true then (A.node i).size else 0

end Go.Proofs.Ytapocbahkeoeoaa
