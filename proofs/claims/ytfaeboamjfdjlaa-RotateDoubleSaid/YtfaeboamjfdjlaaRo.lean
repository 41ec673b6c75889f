/-
  The program's rotations.
-/
import Derived.Test.YtfaeboamjfdjlaaAr
import Derived.Test.YtfaeboamjfdjlaaDn
set_option linter.unusedVariables false
namespace Go.Proofs.Ytfaeboamjfdjlaa
open Go.Vc

theorem read_un {A : AR} {i : Nat} (h : A.used i = false) : A.read i = A := by unfold AR.read; rw [h]; rfl

theorem c_child (w : World) (lo p : Nat) (q : AP) (A : AR) (i : Nat) (ha : ArP w lo p q A) (hi : i < 4294967296) :
    Calls Try.prog 55 [ptr p, .int .u32 (i : Int)].toArray w (Ret fun v w' => v = .tuple #[.agg ⟨(A.nodeOf i).cells⟩, .bool (A.used i)] ∧ ArP w' lo p q (A.read i) ∧ Fr (fun b => b = p) w w') := by
  have hpl := ha.lt p ha.fpp
  have hfl := ha.lt
  refine calls_go Try.func55 rfl Try.ntmps55 (Nat.le_of_ble_eq_true rfl) ?_
  by_cases h0 : i = 0
  · subst h0
    have hu := ha.wf.u0
    rw [read_un hu, nodeOf_un hu, hu]
    unfold Nd.zero Nd.cells
    repeat (first | refine sp ?_ | (refine is_load ?_; refine ld ?_) | (refine is_store ?_; refine sr ?_) | (refine is_alloc ?_; refine al ?_) | (refine is_box ?_; refine bx ?_) | (refine isl_load ?_; refine ldl ?_) | (refine isl_store ?_; refine srl ?_) | (refine isl_alloc ?_; refine all' ?_) | (refine isl_box ?_; refine bxl ?_))
    exact go_ret2 rfl ⟨_, rfl, Ld.run (ld_part (by (repeat (first | assumption | (refine At.new' (by (first | omega | (simp; done) | (simp; omega))) _ _) | apply At.alloc | apply At.drewN | apply At.setRow | (apply At.setRow_neF; first | assumption | (apply Ne.symm; assumption) | omega) | (apply At.extF; assumption)))) rfl rfl)⟩ rfl ⟨_, rfl, rfl, ha.ext (by (repeat (first | exact Fr.refl _ _ | assumption | apply Fr.drewN | apply Fr.alloc | (apply Fr.transF; assumption) | (refine Fr.setRow ?_ _ (by first | exact Or.inr (by (first | omega | (simp; done) | (simp; omega))) | (exact Or.inl (by first | assumption | (simp; done)))))))), Fr.of_ext (by (repeat (first | exact Fr.refl _ _ | assumption | apply Fr.drewN | apply Fr.alloc | (apply Fr.transF; assumption) | (refine Fr.setRow ?_ _ (by first | exact Or.inr (by (first | omega | (simp; done) | (simp; omega))) | (exact Or.inl (by first | assumption | (simp; done))))))))⟩
  · repeat (first | refine sp ?_ | (refine is_load ?_; refine ld ?_) | (refine is_store ?_; refine sr ?_) | (refine is_alloc ?_; refine al ?_) | (refine is_box ?_; refine bx ?_) | (refine isl_load ?_; refine ldl ?_) | (refine isl_store ?_; refine srl ?_) | (refine isl_alloc ?_; refine all' ?_) | (refine isl_box ?_; refine bxl ?_))
    refine go_call rfl rfl (p_Node _ lo p q A i (ha.ext (by (repeat (first | exact Fr.refl _ _ | assumption | apply Fr.drewN | apply Fr.alloc | (apply Fr.transF; assumption) | (refine Fr.setRow ?_ _ (by first | exact Or.inr (by (first | omega | (simp; done) | (simp; omega))) | (exact Or.inl (by first | assumption | (simp; done))))))))) hi) ?_
    rintro _ w1 ⟨rfl, ha1, hf1⟩
    have hF1 : Fr (fun b => b = p) w w1 := Fr.trans ((Fr.refl _ _).alloc _) hf1
    have hret : At w1 w.heap.size [.int .i64 0, .int .i64 0, .int .u32 0, .int .u32 0, .int .i64 0, .int .i64 0, .int .i64 0, .int .i64 0] 41 := At.fr (At.new _ _ _) hf1 (by omega)
    generalize A.nodeOf i = N
    unfold Nd.cells
    repeat (first | refine sp ?_ | (refine is_load ?_; refine ld ?_) | (refine is_store ?_; refine sr ?_) | (refine is_alloc ?_; refine al ?_) | (refine is_box ?_; refine bx ?_) | (refine isl_load ?_; refine ldl ?_) | (refine isl_store ?_; refine srl ?_) | (refine isl_alloc ?_; refine all' ?_) | (refine isl_box ?_; refine bxl ?_))
    exact go_ret2 rfl ⟨_, rfl, Ld.run (ld_part (by (repeat (first | assumption | (refine At.new' (by (first | omega | (simp; done) | (simp; omega))) _ _) | apply At.alloc | apply At.drewN | apply At.setRow | (apply At.setRow_neF; first | assumption | (apply Ne.symm; assumption) | omega) | (apply At.extF; assumption)))) rfl rfl)⟩ rfl ⟨_, rfl, rfl, ha1.fr (S := fun b => w.heap.size ≤ b) (by (repeat (first | exact Fr.refl _ _ | assumption | apply Fr.drewN | apply Fr.alloc | (apply Fr.transF; assumption) | (refine Fr.setRow ?_ _ (by first | exact Or.inr (by (first | omega | (simp; done) | (simp; omega))) | (exact Or.inl (by first | assumption | (simp; done)))))))) (fun b hb e => by have := hfl b hb; omega), hF1.trans' (S' := fun b => w.heap.size ≤ b) (by (repeat (first | exact Fr.refl _ _ | assumption | apply Fr.drewN | apply Fr.alloc | (apply Fr.transF; assumption) | (refine Fr.setRow ?_ _ (by first | exact Or.inr (by (first | omega | (simp; done) | (simp; omega))) | (exact Or.inl (by first | assumption | (simp; done)))))))) fun b hb e => by omega⟩

theorem c_node (w : World) (lo p : Nat) (q : AP) (A : AR) (h : Nat → Nat) (N : Nd) (l r : Nat) (g : Ars w lo p q A h) (hb : ∀ i, h i ≤ 1000000000) (hl : l = 0 ∨ A.used l = true) (hr : r = 0 ∨ A.used r = true) (hE : A.makeE N.key N.val l r = 0) :
    Calls Try.prog 56 [ptr p, .int .u32 (l : Int), .agg ⟨N.cells⟩, .int .u32 (r : Int)].toArray w (Ret fun x w' =>
      x = .tuple #[.int .u32 (A.top : Int), .int .i64 0] ∧ ∃ q' B, Ars w' lo p q' B (addH h A.top) ∧ Mkd A B A.top N.key N.val l r ∧ (∀ b, q'.fp b → q.fp b ∨ w.heap.size ≤ b) ∧ Fr q.fp w w') := by
  unfold Nd.cells
  refine calls_go Try.func56 rfl Try.ntmps56 (Nat.le_of_ble_eq_true rfl) ?_
  repeat (first | refine sp ?_ | (refine is_load ?_; refine ld ?_) | (refine is_store ?_; refine sr ?_) | (refine is_alloc ?_; refine al ?_) | (refine is_box ?_; refine bx ?_) | (refine isl_load ?_; refine ldl ?_) | (refine isl_store ?_; refine srl ?_) | (refine isl_alloc ?_; refine all' ?_) | (refine isl_box ?_; refine bxl ?_))
  refine go_call rfl rfl (c_MakeA _ lo p q A h N.key N.val l r (g.ext (by (repeat (first | exact Fr.refl _ _ | assumption | apply Fr.drewN | apply Fr.alloc | (apply Fr.transF; assumption) | (refine Fr.setRow ?_ _ (by first | exact Or.inr (by (first | omega | (simp; done) | (simp; omega))) | (exact Or.inl (by first | assumption | (simp; done))))))))) hb hl hr hE) ?_
  rintro _ w1 ⟨rfl, q', B, g1, m, hq, hf⟩
  repeat (first | refine sp ?_ | (refine is_load ?_; refine ld ?_) | (refine is_store ?_; refine sr ?_) | (refine is_alloc ?_; refine al ?_) | (refine is_box ?_; refine bx ?_) | (refine isl_load ?_; refine ldl ?_) | (refine isl_store ?_; refine srl ?_) | (refine isl_alloc ?_; refine all' ?_) | (refine isl_box ?_; refine bxl ?_))
  exact go_ret2 rfl rfl rfl ⟨_, rfl, rfl, q', B, g1, m, (fun b hb => (hq b hb).imp id fun h => by simp at h; omega), Fr.trans ((Fr.refl _ _).alloc _) hf⟩

/-- A new node with these contents. -/
structure IsN (A R : AR) (i : Nat) (k v : Int) (l r : Nat) : Prop where
  new : A.used i = false
  i1 : 1 ≤ i
  ic : i ≤ R.cap
  use : R.used i = true
  key : (R.node i).key = k
  val : (R.node i).val = v
  left : (R.node i).left = l
  right : (R.node i).right = r
theorem Mkd.isN {A B : AR} {i : Nat} {k v : Int} {l r : Nat} (m : Mkd A B i k v l r) : IsN A B i k v l r :=
  ⟨m.new, m.i1, by rw [m.kp.cap]; exact m.ic, m.use, m.lr.1, m.lr.2.1, m.lr.2.2.1, m.lr.2.2.2⟩
theorem IsN.keep {A B C : AR} {i : Nat} {k v : Int} {l r : Nat} (n : IsN A B i k v l r) (kp : Kp B C) : IsN A C i k v l r := by
  obtain ⟨a, b, _⟩ := kp.old i n.use
  exact ⟨n.new, n.i1, by rw [kp.cap]; exact n.ic, a, by rw [b]; exact n.key, by rw [b]; exact n.val, by rw [b]; exact n.left, by rw [b]; exact n.right⟩
theorem IsN.before {A A' B : AR} {i : Nat} {k v : Int} {l r : Nat} (n : IsN A' B i k v l r) (kp : Kp A A') : IsN A B i k v l r := by
  refine ⟨?_, n.i1, n.ic, n.use, n.key, n.val, n.left, n.right⟩
  cases e : A.used i with
  | false => rfl
  | true => have := (kp.old i e).1; rw [n.new] at this; cases this

/-- The way a failure looks: nothing has changed but the number of reads. -/
def RotBad (w : World) (lo p : Nat) (q : AP) (A : AR) (h : Nat → Nat) (n : Nat) (F : Prop) (m : Nat) (v : Value) (w' : World) : Prop :=
  ∃ E B, v = .tuple #[.int .u32 0, .int .i64 E] ∧ ((E = 1 ∧ ¬ F) ∨ (E = 2 ∧ F ∧ A.free < m)) ∧ Ars w' lo p q B h ∧ Rds A B n ∧ Fr q.fp w w'
def RotOk (w : World) (lo p : Nat) (q : AP) (A : AR) (h : Nat → Nat) (F : Prop) (m : Nat) (G : AR → Nat → Prop) (v : Value) (w' : World) : Prop :=
  F ∧ m ≤ A.free ∧ ∃ (q' : AP) (R : AR) (i : Nat), v = .tuple #[.int .u32 (i : Int), .int .i64 0] ∧ Ars w' lo p q' R (addH h i) ∧ Kp A R ∧ R.free + m = A.free ∧ G R i ∧ (∀ b, q'.fp b → q.fp b ∨ w.heap.size ≤ b) ∧ Fr q.fp w w'

def fL (A : AR) (i : Nat) : Prop := A.used i = true ∧ A.used (A.node i).right = true
def fR (A : AR) (i : Nat) : Prop := A.used i = true ∧ A.used (A.node i).left = true
def gL (A : AR) (i : Nat) (R : AR) (o : Nat) : Prop := ∃ j, IsN A R o (A.node (A.node i).right).key (A.node (A.node i).right).val j (A.node (A.node i).right).right ∧ IsN A R j (A.node i).key (A.node i).val (A.node i).left (A.node (A.node i).right).left
def gR (A : AR) (i : Nat) (R : AR) (o : Nat) : Prop := ∃ j, IsN A R o (A.node (A.node i).left).key (A.node (A.node i).left).val (A.node (A.node i).left).left j ∧ IsN A R j (A.node i).key (A.node i).val (A.node (A.node i).left).right (A.node i).right

theorem addH_le {h : Nat → Nat} {k N : Nat} (hb : ∀ i, h i ≤ N) : ∀ i, addH h k i ≤ N + 1 := fun i => by
  have := hb i
  unfold addH eq01; split <;> omega
theorem Sound.bigS {A : AR} {h : Nat → Nat} (s : Sound A h) {k : Nat} (hk : A.used k = true) : szOf A k = 1 + szOf A (A.node k).left + szOf A (A.node k).right ∧ szOf A k ≤ 2147483647 := by
  have h1 := (s.wf.uf k hk).1
  have e : szOf A k = (A.node k).size := by unfold szOf; rw [if_neg (by omega)]
  rw [e]
  exact ⟨s.big hk, (s.ok.sz k hk).2⟩
theorem szOf_bd' {A : AR} {h : Nat → Nat} (s : Sound A h) {c : Nat} (hc : c = 0 ∨ A.used c = true) : 0 ≤ szOf A c ∧ szOf A c ≤ 2147483647 := szOf_bd s c hc


set_option maxHeartbeats 8000000 in
theorem c_Left (w : World) (lo p : Nat) (q : AP) (A : AR) (h : Nat → Nat) (i : Nat) (g : Ars w lo p q A h) (hb : ∀ i, h i ≤ 1000000) (hi : i < 4294967296) :
    Calls Try.prog 45 [ptr p, .int .u32 (i : Int)].toArray w (Ret fun v w' => RotOk w lo p q A h (fL A i) 2 (gL A i) v w' ∨ RotBad w lo p q A h 2 (fL A i) 2 v w') := by
  have hpl := g.ar.lt p g.ar.fpp
  have hfl := g.ar.lt
  have hpf := g.ar.fpp
  refine calls_go Try.func45 rfl Try.ntmps45 (Nat.le_of_ble_eq_true rfl) ?_
  repeat (first | refine sp ?_ | (refine is_load ?_; refine ld ?_) | (refine is_store ?_; refine sr ?_) | (refine is_alloc ?_; refine al ?_) | (refine is_box ?_; refine bx ?_) | (refine isl_load ?_; refine ldl ?_) | (refine isl_store ?_; refine srl ?_) | (refine isl_alloc ?_; refine all' ?_) | (refine isl_box ?_; refine bxl ?_))
  refine go_call rfl rfl (c_child w lo p q A i g.ar hi) ?_
  rintro _ w1 ⟨rfl, ha1, hf1⟩
  have g1 : Ars w1 lo p q (A.read i) h := g.rd ha1 (Rds.read A i) hf1
  have hl1 := hf1.size
  cases hu : A.used i with
  | false =>
    rw [nodeOf_un hu]
    unfold Nd.zero Nd.cells
    repeat (first | refine sp ?_ | (refine is_load ?_; refine ld ?_) | (refine is_store ?_; refine sr ?_) | (refine is_alloc ?_; refine al ?_) | (refine is_box ?_; refine bx ?_) | (refine isl_load ?_; refine ldl ?_) | (refine isl_store ?_; refine srl ?_) | (refine isl_alloc ?_; refine all' ?_) | (refine isl_box ?_; refine bxl ?_))
    exact go_ret2 rfl rfl rfl ⟨_, rfl, Or.inr ⟨1, _, rfl, Or.inl ⟨rfl, fun h => by rw [h.1] at hu; cases hu⟩, g1.ext (by (repeat (first | exact Fr.refl _ _ | assumption | apply Fr.drewN | apply Fr.alloc | (apply Fr.transF; assumption) | (refine Fr.setRow ?_ _ (by first | exact Or.inr (by (first | omega | (simp; done) | (simp; omega))) | (exact Or.inl (by first | assumption | (simp; done)))))))), (Rds.read A i).mono (by omega), (hf1.mono fun b e => by rw [e]; exact hpf).trans (Fr.of_ext (by (repeat (first | exact Fr.refl _ _ | assumption | apply Fr.drewN | apply Fr.alloc | (apply Fr.transF; assumption) | (refine Fr.setRow ?_ _ (by first | exact Or.inr (by (first | omega | (simp; done) | (simp; omega))) | (exact Or.inl (by first | assumption | (simp; done)))))))))⟩⟩
  | true =>
    rw [nodeOf_us hu]
    obtain ⟨kl, kr⟩ := g.snd.kid i hu
    have hbig := g.snd.bigS hu
    have hFX : ∀ P : Prop, P → True := fun _ _ => trivial
    generalize hX : A.node i = X at *
    unfold Nd.cells
    repeat (first | refine sp ?_ | (refine is_load ?_; refine ld ?_) | (refine is_store ?_; refine sr ?_) | (refine is_alloc ?_; refine al ?_) | (refine is_box ?_; refine bx ?_) | (refine isl_load ?_; refine ldl ?_) | (refine isl_store ?_; refine srl ?_) | (refine isl_alloc ?_; refine all' ?_) | (refine isl_box ?_; refine bxl ?_))
    refine go_name (F := fun w2 => At w2 w1.heap.size [.int .i64 X.key, .int .i64 X.val, .int .u32 (X.left : Int), .int .u32 (X.right : Int), .int .i64 X.size, .int .i64 X.sum, .int .i64 X.mn, .int .i64 X.mx] 41 ∧ Ext w1 w2 ∧ w1.heap.size + 1 ≤ w2.heap.size) ⟨by (repeat (first | assumption | (refine At.new' (by (first | omega | (simp; done) | (simp; omega))) _ _) | apply At.alloc | apply At.drewN | apply At.setRow | (apply At.setRow_neF; first | assumption | (apply Ne.symm; assumption) | omega) | (apply At.extF; assumption))), by (repeat (first | exact Fr.refl _ _ | assumption | apply Fr.drewN | apply Fr.alloc | (apply Fr.transF; assumption) | (refine Fr.setRow ?_ _ (by first | exact Or.inr (by (first | omega | (simp; done) | (simp; omega))) | (exact Or.inl (by first | assumption | (simp; done))))))), by simp⟩ ?_
    rintro w2 ⟨hX2, hx2, hl2⟩
    have g2 := g1.ext hx2
    refine go_call rfl rfl (c_child w2 lo p q (A.read i) X.right g2.ar (used_lt g.ar.wf kr)) ?_
    rintro _ w3 ⟨rfl, ha3, hf3⟩
    have g3 : Ars w3 lo p q ((A.read i).read X.right) h := g2.rd ha3 (Rds.read _ _) hf3
    have hl3 := hf3.size
    have hX3 := hX2.fr hf3 (by omega)
    have hr3 : Rds A ((A.read i).read X.right) 2 := (Rds.read A i).trans (Rds.read _ _)
    have hF3 : Fr q.fp w w3 := ((hf1.mono fun b e => by rw [e]; exact hpf).trans (Fr.of_ext hx2)).trans (hf3.mono fun b e => by rw [e]; exact hpf)
    have eu : (A.read i).used = A.used := (Rds.read A i).used
    have en : (A.read i).nodeOf X.right = A.nodeOf X.right := (Rds.read A i).nodeOf _
    rw [eu, en]
    cases hu2 : A.used X.right with
    | false =>
      rw [nodeOf_un hu2]
      unfold Nd.zero Nd.cells
      repeat (first | refine sp ?_ | (refine is_load ?_; refine ld ?_) | (refine is_store ?_; refine sr ?_) | (refine is_alloc ?_; refine al ?_) | (refine is_box ?_; refine bx ?_) | (refine isl_load ?_; refine ldl ?_) | (refine isl_store ?_; refine srl ?_) | (refine isl_alloc ?_; refine all' ?_) | (refine isl_box ?_; refine bxl ?_))
      exact go_ret2 rfl rfl rfl ⟨_, rfl, Or.inr ⟨1, _, rfl, Or.inl ⟨rfl, fun h => by have := h.2; rw [hX, hu2] at this; cases this⟩, g3.ext (by (repeat (first | exact Fr.refl _ _ | assumption | apply Fr.drewN | apply Fr.alloc | (apply Fr.transF; assumption) | (refine Fr.setRow ?_ _ (by first | exact Or.inr (by (first | omega | (simp; done) | (simp; omega))) | (exact Or.inl (by first | assumption | (simp; done)))))))), hr3, hF3.trans (Fr.of_ext (by (repeat (first | exact Fr.refl _ _ | assumption | apply Fr.drewN | apply Fr.alloc | (apply Fr.transF; assumption) | (refine Fr.setRow ?_ _ (by first | exact Or.inr (by (first | omega | (simp; done) | (simp; omega))) | (exact Or.inl (by first | assumption | (simp; done)))))))))⟩⟩
    | true =>
      rw [nodeOf_us hu2]
      have hF : fL A i := ⟨hu, by rw [hX]; exact hu2⟩
      obtain ⟨kl2, kr2⟩ := g.snd.kid X.right hu2
      have hbig2 := g.snd.bigS hu2
      generalize hP : A.node X.right = P at *
      have hfr : ((A.read i).read X.right).free = A.free := hr3.free
      unfold Nd.cells
      repeat (first | refine sp ?_ | (refine is_load ?_; refine ld ?_) | (refine is_store ?_; refine sr ?_) | (refine is_alloc ?_; refine al ?_) | (refine is_box ?_; refine bx ?_) | (refine isl_load ?_; refine ldl ?_) | (refine isl_store ?_; refine srl ?_) | (refine isl_alloc ?_; refine all' ?_) | (refine isl_box ?_; refine bxl ?_))
      refine go_name (F := fun w4 => At w4 w1.heap.size [.int .i64 X.key, .int .i64 X.val, .int .u32 (X.left : Int), .int .u32 (X.right : Int), .int .i64 X.size, .int .i64 X.sum, .int .i64 X.mn, .int .i64 X.mx] 41 ∧ At w4 w3.heap.size [.int .i64 P.key, .int .i64 P.val, .int .u32 (P.left : Int), .int .u32 (P.right : Int), .int .i64 P.size, .int .i64 P.sum, .int .i64 P.mn, .int .i64 P.mx] 41 ∧ Ext w3 w4 ∧ w3.heap.size + 1 ≤ w4.heap.size) ⟨by (repeat (first | assumption | (refine At.new' (by (first | omega | (simp; done) | (simp; omega))) _ _) | apply At.alloc | apply At.drewN | apply At.setRow | (apply At.setRow_neF; first | assumption | (apply Ne.symm; assumption) | omega) | (apply At.extF; assumption))), by (repeat (first | assumption | (refine At.new' (by (first | omega | (simp; done) | (simp; omega))) _ _) | apply At.alloc | apply At.drewN | apply At.setRow | (apply At.setRow_neF; first | assumption | (apply Ne.symm; assumption) | omega) | (apply At.extF; assumption))), by (repeat (first | exact Fr.refl _ _ | assumption | apply Fr.drewN | apply Fr.alloc | (apply Fr.transF; assumption) | (refine Fr.setRow ?_ _ (by first | exact Or.inr (by (first | omega | (simp; done) | (simp; omega))) | (exact Or.inl (by first | assumption | (simp; done))))))), by simp⟩ ?_
      rintro w4 ⟨hX4, hP4, hx4, hl4⟩
      have g4 := g3.ext hx4
      have hF4 := hF3.trans (Fr.of_ext hx4)
      generalize hbx : w1.heap.size = bx at *
      generalize hbp : w3.heap.size = bp at *
      refine go_call rfl rfl (p_Free w4 lo p q _ g4.ar) ?_
      rintro _ w5 ⟨rfl, hx5⟩
      have g5 := g4.ext hx5
      have hF5 := hF4.trans (Fr.of_ext hx5)
      have hX5 := hX4.ext hx5
      have hP5 := hP4.ext hx5
      have hl5 := hx5.size
      rw [hfr]
      by_cases hfree : A.free < 2
      · repeat (first | refine sp ?_ | (refine is_load ?_; refine ld ?_) | (refine is_store ?_; refine sr ?_) | (refine is_alloc ?_; refine al ?_) | (refine is_box ?_; refine bx ?_) | (refine isl_load ?_; refine ldl ?_) | (refine isl_store ?_; refine srl ?_) | (refine isl_alloc ?_; refine all' ?_) | (refine isl_box ?_; refine bxl ?_))
        exact go_ret2 rfl rfl rfl ⟨_, rfl, Or.inr ⟨2, _, rfl, Or.inr ⟨rfl, hF, hfree⟩, g5, hr3, hF5⟩⟩
      have hkp := hr3.kp
      generalize (A.read i).read X.right = A2 at *
      have us : ∀ c, c = 0 ∨ A.used c = true → c = 0 ∨ A2.used c = true := fun c hc => hkp.or hc
      have zs : ∀ c, c = 0 ∨ A.used c = true → szOf A2 c = szOf A c := fun c hc => hkp.szOf hc
      have b1 := szOf_bd' g.snd kl
      have b2 := szOf_bd' g.snd kr
      have b3 := szOf_bd' g.snd kl2
      have b4 := szOf_bd' g.snd kr2
      repeat (first | refine sp ?_ | (refine is_load ?_; refine ld ?_) | (refine is_store ?_; refine sr ?_) | (refine is_alloc ?_; refine al ?_) | (refine is_box ?_; refine bx ?_) | (refine isl_load ?_; refine ldl ?_) | (refine isl_store ?_; refine srl ?_) | (refine isl_alloc ?_; refine all' ?_) | (refine isl_box ?_; refine bxl ?_))
      have hE1 : A2.makeE X.key X.val X.left P.left = 0 := mkE0 g5.snd (us _ kl) (us _ kl2) (by rw [zs _ kl, zs _ kl2]; omega) (by rw [hfr]; omega)
      refine go_call rfl rfl (c_node w5 lo p q A2 h X X.left P.left g5 (fun i => by have := hb i; omega) (us _ kl) (us _ kl2) hE1) ?_
      rintro _ w6 ⟨rfl, q6, B, g6, m6, hq6, hf6⟩
      have hF6 := hF5.trans hf6
      have hX6 := hX5.fr hf6 (fun e => by have := hfl bx e; omega)
      have hP6 := hP5.fr hf6 (fun e => by have := hfl bp e; omega)
      have hl6 := hf6.size
      have ht1 := m6.i1
      have hz6 := m6.size g5.snd (us _ kl) (us _ kl2)
      rw [zs _ kl, zs _ kl2] at hz6
      generalize hi1 : A2.top = i1 at *
      have hkp2 := hkp.trans m6.kp
      repeat (first | refine sp ?_ | (refine is_load ?_; refine ld ?_) | (refine is_store ?_; refine sr ?_) | (refine is_alloc ?_; refine al ?_) | (refine is_box ?_; refine bx ?_) | (refine isl_load ?_; refine ldl ?_) | (refine isl_store ?_; refine srl ?_) | (refine isl_alloc ?_; refine all' ?_) | (refine isl_box ?_; refine bxl ?_))
      have hE2 : B.makeE P.key P.val i1 P.right = 0 := mkE0 g6.snd (Or.inr m6.use) (hkp2.or kr2) (by rw [hz6, hkp2.szOf kr2]; omega) (by have := m6.free; omega)
      refine go_call rfl rfl (c_node w6 lo p q6 B _ P i1 P.right g6 (fun i => by have := addH_le hb (k := i1) i; omega) (Or.inr m6.use) (hkp2.or kr2) hE2) ?_
      rintro _ w7 ⟨rfl, q7, C, g7, m7, hq7, hf7⟩
      have hq7' : ∀ b, q6.fp b → q.fp b ∨ w.heap.size ≤ b := fun b hb => by
        rcases hq6 b hb with e | e
        · exact Or.inl e
        · right; have := hF5.size; omega
      have hF7 : Fr q.fp w w7 := hF6.trans' hf7 fun b hb e => by
        rcases hq7' b e with e | e
        · exact e
        · omega
      have hl7 := hf7.size
      generalize hi2 : B.top = i2 at *
      have m7n := m7.isN
      have hne : i2 ≠ i1 := by rintro rfl; have := m7.new; rw [m6.use] at this; cases this
      have g7' : Ars w7 lo p q7 C (addH (addH h i2) i1) := g7.congr fun i _ => by unfold addH; omega
      have hedge : 0 < edges C i1 := edge_pos g7.ar.wf m7.use (Or.inl m7.lr.2.2.1)
      repeat (first | refine sp ?_ | (refine is_load ?_; refine ld ?_) | (refine is_store ?_; refine sr ?_) | (refine is_alloc ?_; refine al ?_) | (refine is_box ?_; refine bx ?_) | (refine isl_load ?_; refine ldl ?_) | (refine isl_store ?_; refine srl ?_) | (refine isl_alloc ?_; refine all' ?_) | (refine isl_box ?_; refine bxl ?_))
      refine go_call rfl rfl (c_RelA w7 lo p q7 C (addH h i2) i1 g7' (by have := addH_le hb (k := i2) i1; omega) (m7.kp.old i1 m6.use).1 (by omega)) ?_
      rintro _ w8 ⟨rfl, q8, g8, hq8, hf8⟩
      have hq8' : ∀ b, q7.fp b → q.fp b ∨ w.heap.size ≤ b := fun b hb => by
        rcases hq7 b hb with e | e
        · exact hq7' b e
        · right; have := hF6.size; omega
      have hF8 : Fr q.fp w w8 := hF7.trans' hf8 fun b hb e => by
        rcases hq8' b e with e | e
        · exact e
        · omega
      repeat (first | refine sp ?_ | (refine is_load ?_; refine ld ?_) | (refine is_store ?_; refine sr ?_) | (refine is_alloc ?_; refine al ?_) | (refine is_box ?_; refine bx ?_) | (refine isl_load ?_; refine ldl ?_) | (refine isl_store ?_; refine srl ?_) | (refine isl_alloc ?_; refine all' ?_) | (refine isl_box ?_; refine bxl ?_))
      refine go_ret2 rfl rfl rfl ⟨_, rfl, Or.inl ⟨hF, by omega, q8, C.decC i1, i2, rfl, g8, (hkp2.trans m7.kp).trans (decC_kp C i1), by rw [decC_free]; have := m6.free; have := m7.free; omega, ⟨i1, ?_, ?_⟩, ?_, hF8⟩⟩
      · rw [hX, hP]; exact (m7n.keep (decC_kp C i1)).before hkp2
      · rw [hX, hP]; exact ((m6.isN.keep m7.kp).keep (decC_kp C i1)).before hkp
      · intro b hb
        rcases hq8 b hb with e | e
        · exact hq8' b e
        · right; have := hF7.size; omega

set_option maxHeartbeats 8000000 in
theorem c_Right (w : World) (lo p : Nat) (q : AP) (A : AR) (h : Nat → Nat) (i : Nat) (g : Ars w lo p q A h) (hb : ∀ i, h i ≤ 1000000) (hi : i < 4294967296) :
    Calls Try.prog 44 [ptr p, .int .u32 (i : Int)].toArray w (Ret fun v w' => RotOk w lo p q A h (fR A i) 2 (gR A i) v w' ∨ RotBad w lo p q A h 2 (fR A i) 2 v w') := by
  have hpl := g.ar.lt p g.ar.fpp
  have hfl := g.ar.lt
  have hpf := g.ar.fpp
  refine calls_go Try.func44 rfl Try.ntmps44 (Nat.le_of_ble_eq_true rfl) ?_
  repeat (first | refine sp ?_ | (refine is_load ?_; refine ld ?_) | (refine is_store ?_; refine sr ?_) | (refine is_alloc ?_; refine al ?_) | (refine is_box ?_; refine bx ?_) | (refine isl_load ?_; refine ldl ?_) | (refine isl_store ?_; refine srl ?_) | (refine isl_alloc ?_; refine all' ?_) | (refine isl_box ?_; refine bxl ?_))
  refine go_call rfl rfl (c_child w lo p q A i g.ar hi) ?_
  rintro _ w1 ⟨rfl, ha1, hf1⟩
  have g1 : Ars w1 lo p q (A.read i) h := g.rd ha1 (Rds.read A i) hf1
  have hl1 := hf1.size
  cases hu : A.used i with
  | false =>
    rw [nodeOf_un hu]
    unfold Nd.zero Nd.cells
    repeat (first | refine sp ?_ | (refine is_load ?_; refine ld ?_) | (refine is_store ?_; refine sr ?_) | (refine is_alloc ?_; refine al ?_) | (refine is_box ?_; refine bx ?_) | (refine isl_load ?_; refine ldl ?_) | (refine isl_store ?_; refine srl ?_) | (refine isl_alloc ?_; refine all' ?_) | (refine isl_box ?_; refine bxl ?_))
    exact go_ret2 rfl rfl rfl ⟨_, rfl, Or.inr ⟨1, _, rfl, Or.inl ⟨rfl, fun h => by rw [h.1] at hu; cases hu⟩, g1.ext (by (repeat (first | exact Fr.refl _ _ | assumption | apply Fr.drewN | apply Fr.alloc | (apply Fr.transF; assumption) | (refine Fr.setRow ?_ _ (by first | exact Or.inr (by (first | omega | (simp; done) | (simp; omega))) | (exact Or.inl (by first | assumption | (simp; done)))))))), (Rds.read A i).mono (by omega), (hf1.mono fun b e => by rw [e]; exact hpf).trans (Fr.of_ext (by (repeat (first | exact Fr.refl _ _ | assumption | apply Fr.drewN | apply Fr.alloc | (apply Fr.transF; assumption) | (refine Fr.setRow ?_ _ (by first | exact Or.inr (by (first | omega | (simp; done) | (simp; omega))) | (exact Or.inl (by first | assumption | (simp; done)))))))))⟩⟩
  | true =>
    rw [nodeOf_us hu]
    obtain ⟨kl, kr⟩ := g.snd.kid i hu
    have hbig := g.snd.bigS hu
    have hFX : ∀ P : Prop, P → True := fun _ _ => trivial
    generalize hX : A.node i = X at *
    unfold Nd.cells
    repeat (first | refine sp ?_ | (refine is_load ?_; refine ld ?_) | (refine is_store ?_; refine sr ?_) | (refine is_alloc ?_; refine al ?_) | (refine is_box ?_; refine bx ?_) | (refine isl_load ?_; refine ldl ?_) | (refine isl_store ?_; refine srl ?_) | (refine isl_alloc ?_; refine all' ?_) | (refine isl_box ?_; refine bxl ?_))
    refine go_name (F := fun w2 => At w2 w1.heap.size [.int .i64 X.key, .int .i64 X.val, .int .u32 (X.left : Int), .int .u32 (X.right : Int), .int .i64 X.size, .int .i64 X.sum, .int .i64 X.mn, .int .i64 X.mx] 41 ∧ Ext w1 w2 ∧ w1.heap.size + 1 ≤ w2.heap.size) ⟨by (repeat (first | assumption | (refine At.new' (by (first | omega | (simp; done) | (simp; omega))) _ _) | apply At.alloc | apply At.drewN | apply At.setRow | (apply At.setRow_neF; first | assumption | (apply Ne.symm; assumption) | omega) | (apply At.extF; assumption))), by (repeat (first | exact Fr.refl _ _ | assumption | apply Fr.drewN | apply Fr.alloc | (apply Fr.transF; assumption) | (refine Fr.setRow ?_ _ (by first | exact Or.inr (by (first | omega | (simp; done) | (simp; omega))) | (exact Or.inl (by first | assumption | (simp; done))))))), by simp⟩ ?_
    rintro w2 ⟨hX2, hx2, hl2⟩
    have g2 := g1.ext hx2
    refine go_call rfl rfl (c_child w2 lo p q (A.read i) X.left g2.ar (used_lt g.ar.wf kl)) ?_
    rintro _ w3 ⟨rfl, ha3, hf3⟩
    have g3 : Ars w3 lo p q ((A.read i).read X.left) h := g2.rd ha3 (Rds.read _ _) hf3
    have hl3 := hf3.size
    have hX3 := hX2.fr hf3 (by omega)
    have hr3 : Rds A ((A.read i).read X.left) 2 := (Rds.read A i).trans (Rds.read _ _)
    have hF3 : Fr q.fp w w3 := ((hf1.mono fun b e => by rw [e]; exact hpf).trans (Fr.of_ext hx2)).trans (hf3.mono fun b e => by rw [e]; exact hpf)
    have eu : (A.read i).used = A.used := (Rds.read A i).used
    have en : (A.read i).nodeOf X.left = A.nodeOf X.left := (Rds.read A i).nodeOf _
    rw [eu, en]
    cases hu2 : A.used X.left with
    | false =>
      rw [nodeOf_un hu2]
      unfold Nd.zero Nd.cells
      repeat (first | refine sp ?_ | (refine is_load ?_; refine ld ?_) | (refine is_store ?_; refine sr ?_) | (refine is_alloc ?_; refine al ?_) | (refine is_box ?_; refine bx ?_) | (refine isl_load ?_; refine ldl ?_) | (refine isl_store ?_; refine srl ?_) | (refine isl_alloc ?_; refine all' ?_) | (refine isl_box ?_; refine bxl ?_))
      exact go_ret2 rfl rfl rfl ⟨_, rfl, Or.inr ⟨1, _, rfl, Or.inl ⟨rfl, fun h => by have := h.2; rw [hX, hu2] at this; cases this⟩, g3.ext (by (repeat (first | exact Fr.refl _ _ | assumption | apply Fr.drewN | apply Fr.alloc | (apply Fr.transF; assumption) | (refine Fr.setRow ?_ _ (by first | exact Or.inr (by (first | omega | (simp; done) | (simp; omega))) | (exact Or.inl (by first | assumption | (simp; done)))))))), hr3, hF3.trans (Fr.of_ext (by (repeat (first | exact Fr.refl _ _ | assumption | apply Fr.drewN | apply Fr.alloc | (apply Fr.transF; assumption) | (refine Fr.setRow ?_ _ (by first | exact Or.inr (by (first | omega | (simp; done) | (simp; omega))) | (exact Or.inl (by first | assumption | (simp; done)))))))))⟩⟩
    | true =>
      rw [nodeOf_us hu2]
      have hF : fR A i := ⟨hu, by rw [hX]; exact hu2⟩
      obtain ⟨kl2, kr2⟩ := g.snd.kid X.left hu2
      have hbig2 := g.snd.bigS hu2
      generalize hP : A.node X.left = P at *
      have hfr : ((A.read i).read X.left).free = A.free := hr3.free
      unfold Nd.cells
      repeat (first | refine sp ?_ | (refine is_load ?_; refine ld ?_) | (refine is_store ?_; refine sr ?_) | (refine is_alloc ?_; refine al ?_) | (refine is_box ?_; refine bx ?_) | (refine isl_load ?_; refine ldl ?_) | (refine isl_store ?_; refine srl ?_) | (refine isl_alloc ?_; refine all' ?_) | (refine isl_box ?_; refine bxl ?_))
      refine go_name (F := fun w4 => At w4 w1.heap.size [.int .i64 X.key, .int .i64 X.val, .int .u32 (X.left : Int), .int .u32 (X.right : Int), .int .i64 X.size, .int .i64 X.sum, .int .i64 X.mn, .int .i64 X.mx] 41 ∧ At w4 w3.heap.size [.int .i64 P.key, .int .i64 P.val, .int .u32 (P.left : Int), .int .u32 (P.right : Int), .int .i64 P.size, .int .i64 P.sum, .int .i64 P.mn, .int .i64 P.mx] 41 ∧ Ext w3 w4 ∧ w3.heap.size + 1 ≤ w4.heap.size) ⟨by (repeat (first | assumption | (refine At.new' (by (first | omega | (simp; done) | (simp; omega))) _ _) | apply At.alloc | apply At.drewN | apply At.setRow | (apply At.setRow_neF; first | assumption | (apply Ne.symm; assumption) | omega) | (apply At.extF; assumption))), by (repeat (first | assumption | (refine At.new' (by (first | omega | (simp; done) | (simp; omega))) _ _) | apply At.alloc | apply At.drewN | apply At.setRow | (apply At.setRow_neF; first | assumption | (apply Ne.symm; assumption) | omega) | (apply At.extF; assumption))), by (repeat (first | exact Fr.refl _ _ | assumption | apply Fr.drewN | apply Fr.alloc | (apply Fr.transF; assumption) | (refine Fr.setRow ?_ _ (by first | exact Or.inr (by (first | omega | (simp; done) | (simp; omega))) | (exact Or.inl (by first | assumption | (simp; done))))))), by simp⟩ ?_
      rintro w4 ⟨hX4, hP4, hx4, hl4⟩
      have g4 := g3.ext hx4
      have hF4 := hF3.trans (Fr.of_ext hx4)
      generalize hbx : w1.heap.size = bx at *
      generalize hbp : w3.heap.size = bp at *
      refine go_call rfl rfl (p_Free w4 lo p q _ g4.ar) ?_
      rintro _ w5 ⟨rfl, hx5⟩
      have g5 := g4.ext hx5
      have hF5 := hF4.trans (Fr.of_ext hx5)
      have hX5 := hX4.ext hx5
      have hP5 := hP4.ext hx5
      have hl5 := hx5.size
      rw [hfr]
      by_cases hfree : A.free < 2
      · repeat (first | refine sp ?_ | (refine is_load ?_; refine ld ?_) | (refine is_store ?_; refine sr ?_) | (refine is_alloc ?_; refine al ?_) | (refine is_box ?_; refine bx ?_) | (refine isl_load ?_; refine ldl ?_) | (refine isl_store ?_; refine srl ?_) | (refine isl_alloc ?_; refine all' ?_) | (refine isl_box ?_; refine bxl ?_))
        exact go_ret2 rfl rfl rfl ⟨_, rfl, Or.inr ⟨2, _, rfl, Or.inr ⟨rfl, hF, hfree⟩, g5, hr3, hF5⟩⟩
      have hkp := hr3.kp
      generalize (A.read i).read X.left = A2 at *
      have us : ∀ c, c = 0 ∨ A.used c = true → c = 0 ∨ A2.used c = true := fun c hc => hkp.or hc
      have zs : ∀ c, c = 0 ∨ A.used c = true → szOf A2 c = szOf A c := fun c hc => hkp.szOf hc
      have b1 := szOf_bd' g.snd kl
      have b2 := szOf_bd' g.snd kr
      have b3 := szOf_bd' g.snd kl2
      have b4 := szOf_bd' g.snd kr2
      repeat (first | refine sp ?_ | (refine is_load ?_; refine ld ?_) | (refine is_store ?_; refine sr ?_) | (refine is_alloc ?_; refine al ?_) | (refine is_box ?_; refine bx ?_) | (refine isl_load ?_; refine ldl ?_) | (refine isl_store ?_; refine srl ?_) | (refine isl_alloc ?_; refine all' ?_) | (refine isl_box ?_; refine bxl ?_))
      have hE1 : A2.makeE X.key X.val P.right X.right = 0 := mkE0 g5.snd (us _ kr2) (us _ kr) (by rw [zs _ kr2, zs _ kr]; omega) (by rw [hfr]; omega)
      refine go_call rfl rfl (c_node w5 lo p q A2 h X P.right X.right g5 (fun i => by have := hb i; omega) (us _ kr2) (us _ kr) hE1) ?_
      rintro _ w6 ⟨rfl, q6, B, g6, m6, hq6, hf6⟩
      have hF6 := hF5.trans hf6
      have hX6 := hX5.fr hf6 (fun e => by have := hfl bx e; omega)
      have hP6 := hP5.fr hf6 (fun e => by have := hfl bp e; omega)
      have hl6 := hf6.size
      have ht1 := m6.i1
      have hz6 := m6.size g5.snd (us _ kr2) (us _ kr)
      rw [zs _ kr2, zs _ kr] at hz6
      generalize hi1 : A2.top = i1 at *
      have hkp2 := hkp.trans m6.kp
      repeat (first | refine sp ?_ | (refine is_load ?_; refine ld ?_) | (refine is_store ?_; refine sr ?_) | (refine is_alloc ?_; refine al ?_) | (refine is_box ?_; refine bx ?_) | (refine isl_load ?_; refine ldl ?_) | (refine isl_store ?_; refine srl ?_) | (refine isl_alloc ?_; refine all' ?_) | (refine isl_box ?_; refine bxl ?_))
      have hE2 : B.makeE P.key P.val P.left i1 = 0 := mkE0 g6.snd (hkp2.or kl2) (Or.inr m6.use) (by rw [hz6, hkp2.szOf kl2]; omega) (by have := m6.free; omega)
      refine go_call rfl rfl (c_node w6 lo p q6 B _ P P.left i1 g6 (fun i => by have := addH_le hb (k := i1) i; omega) (hkp2.or kl2) (Or.inr m6.use) hE2) ?_
      rintro _ w7 ⟨rfl, q7, C, g7, m7, hq7, hf7⟩
      have hq7' : ∀ b, q6.fp b → q.fp b ∨ w.heap.size ≤ b := fun b hb => by
        rcases hq6 b hb with e | e
        · exact Or.inl e
        · right; have := hF5.size; omega
      have hF7 : Fr q.fp w w7 := hF6.trans' hf7 fun b hb e => by
        rcases hq7' b e with e | e
        · exact e
        · omega
      have hl7 := hf7.size
      generalize hi2 : B.top = i2 at *
      have m7n := m7.isN
      have hne : i2 ≠ i1 := by rintro rfl; have := m7.new; rw [m6.use] at this; cases this
      have g7' : Ars w7 lo p q7 C (addH (addH h i2) i1) := g7.congr fun i _ => by unfold addH; omega
      have hedge : 0 < edges C i1 := edge_pos g7.ar.wf m7.use (Or.inr m7.lr.2.2.2)
      repeat (first | refine sp ?_ | (refine is_load ?_; refine ld ?_) | (refine is_store ?_; refine sr ?_) | (refine is_alloc ?_; refine al ?_) | (refine is_box ?_; refine bx ?_) | (refine isl_load ?_; refine ldl ?_) | (refine isl_store ?_; refine srl ?_) | (refine isl_alloc ?_; refine all' ?_) | (refine isl_box ?_; refine bxl ?_))
      refine go_call rfl rfl (c_RelA w7 lo p q7 C (addH h i2) i1 g7' (by have := addH_le hb (k := i2) i1; omega) (m7.kp.old i1 m6.use).1 (by omega)) ?_
      rintro _ w8 ⟨rfl, q8, g8, hq8, hf8⟩
      have hq8' : ∀ b, q7.fp b → q.fp b ∨ w.heap.size ≤ b := fun b hb => by
        rcases hq7 b hb with e | e
        · exact hq7' b e
        · right; have := hF6.size; omega
      have hF8 : Fr q.fp w w8 := hF7.trans' hf8 fun b hb e => by
        rcases hq8' b e with e | e
        · exact e
        · omega
      repeat (first | refine sp ?_ | (refine is_load ?_; refine ld ?_) | (refine is_store ?_; refine sr ?_) | (refine is_alloc ?_; refine al ?_) | (refine is_box ?_; refine bx ?_) | (refine isl_load ?_; refine ldl ?_) | (refine isl_store ?_; refine srl ?_) | (refine isl_alloc ?_; refine all' ?_) | (refine isl_box ?_; refine bxl ?_))
      refine go_ret2 rfl rfl rfl ⟨_, rfl, Or.inl ⟨hF, by omega, q8, C.decC i1, i2, rfl, g8, (hkp2.trans m7.kp).trans (decC_kp C i1), by rw [decC_free]; have := m6.free; have := m7.free; omega, ⟨i1, ?_, ?_⟩, ?_, hF8⟩⟩
      · rw [hX, hP]; exact (m7n.keep (decC_kp C i1)).before hkp2
      · rw [hX, hP]; exact ((m6.isN.keep m7.kp).keep (decC_kp C i1)).before hkp
      · intro b hb
        rcases hq8 b hb with e | e
        · exact hq8' b e
        · right; have := hF7.size; omega

def ThreeOk (w : World) (lo p : Nat) (q : AP) (A : AR) (h : Nat → Nat) (x y z u : Nat) (NP NQ NR : Nd) (v : Value) (w' : World) : Prop :=
  3 ≤ A.free ∧ ∃ (q' : AP) (R : AR) (i j k : Nat), v = .tuple #[.int .u32 (i : Int), .int .i64 0] ∧ Ars w' lo p q' R (addH h i) ∧ Kp A R ∧ R.free + 3 = A.free ∧ IsN A R i NQ.key NQ.val j k ∧ IsN A R j NP.key NP.val x y ∧ IsN A R k NR.key NR.val z u ∧ (∀ b, q'.fp b → q.fp b ∨ w.heap.size ≤ b) ∧ Fr q.fp w w'

set_option maxHeartbeats 8000000 in
theorem c_three (w : World) (lo p : Nat) (q : AP) (A : AR) (h : Nat → Nat) (x y z u : Nat) (NP NQ NR : Nd) (g : Ars w lo p q A h) (hb : ∀ i, h i ≤ 1000000) (hx : x = 0 ∨ A.used x = true) (hy : y = 0 ∨ A.used y = true) (hz : z = 0 ∨ A.used z = true) (hu : u = 0 ∨ A.used u = true) (hsz : szOf A x + szOf A y + szOf A z + szOf A u + 3 ≤ 2147483647) :
    Calls Try.prog 58 [ptr p, .int .u32 (x : Int), .agg ⟨NP.cells⟩, .int .u32 (y : Int), .agg ⟨NQ.cells⟩, .int .u32 (z : Int), .agg ⟨NR.cells⟩, .int .u32 (u : Int)].toArray w (Ret fun v w' =>
      (A.free < 3 ∧ v = .tuple #[.int .u32 0, .int .i64 2] ∧ Ext w w') ∨ ThreeOk w lo p q A h x y z u NP NQ NR v w') := by
  have hfl := g.ar.lt
  have b1 := szOf_bd' g.snd hx
  have b2 := szOf_bd' g.snd hy
  have b3 := szOf_bd' g.snd hz
  have b4 := szOf_bd' g.snd hu
  unfold Nd.cells
  refine calls_go Try.func58 rfl Try.ntmps58 (Nat.le_of_ble_eq_true rfl) ?_
  repeat (first | refine sp ?_ | (refine is_load ?_; refine ld ?_) | (refine is_store ?_; refine sr ?_) | (refine is_alloc ?_; refine al ?_) | (refine is_box ?_; refine bx ?_) | (refine isl_load ?_; refine ldl ?_) | (refine isl_store ?_; refine srl ?_) | (refine isl_alloc ?_; refine all' ?_) | (refine isl_box ?_; refine bxl ?_))
  refine go_name (F := fun w1 => At w1 w.heap.size [.int .i64 NP.key, .int .i64 NP.val, .int .u32 (NP.left : Int), .int .u32 (NP.right : Int), .int .i64 NP.size, .int .i64 NP.sum, .int .i64 NP.mn, .int .i64 NP.mx] 41 ∧ At w1 (w.heap.size + 1) [.int .i64 NQ.key, .int .i64 NQ.val, .int .u32 (NQ.left : Int), .int .u32 (NQ.right : Int), .int .i64 NQ.size, .int .i64 NQ.sum, .int .i64 NQ.mn, .int .i64 NQ.mx] 41 ∧ At w1 (w.heap.size + 1 + 1) [.int .i64 NR.key, .int .i64 NR.val, .int .u32 (NR.left : Int), .int .u32 (NR.right : Int), .int .i64 NR.size, .int .i64 NR.sum, .int .i64 NR.mn, .int .i64 NR.mx] 41 ∧ Ext w w1) ⟨by (repeat (first | assumption | (refine At.new' (by (first | omega | (simp; done) | (simp; omega))) _ _) | apply At.alloc | apply At.drewN | apply At.setRow | (apply At.setRow_neF; first | assumption | (apply Ne.symm; assumption) | omega) | (apply At.extF; assumption))), by (repeat (first | assumption | (refine At.new' (by (first | omega | (simp; done) | (simp; omega))) _ _) | apply At.alloc | apply At.drewN | apply At.setRow | (apply At.setRow_neF; first | assumption | (apply Ne.symm; assumption) | omega) | (apply At.extF; assumption))), by (repeat (first | assumption | (refine At.new' (by (first | omega | (simp; done) | (simp; omega))) _ _) | apply At.alloc | apply At.drewN | apply At.setRow | (apply At.setRow_neF; first | assumption | (apply Ne.symm; assumption) | omega) | (apply At.extF; assumption))), by (repeat (first | exact Fr.refl _ _ | assumption | apply Fr.drewN | apply Fr.alloc | (apply Fr.transF; assumption) | (refine Fr.setRow ?_ _ (by first | exact Or.inr (by (first | omega | (simp; done) | (simp; omega))) | (exact Or.inl (by first | assumption | (simp; done)))))))⟩ ?_
  rintro w1 ⟨hP1, hQ1, hR1, hx1⟩
  have hl1 := hR1.lt
  have g1 := g.ext hx1
  refine go_call rfl rfl (p_Free w1 lo p q _ g1.ar) ?_
  rintro _ w2 ⟨rfl, hx2⟩
  have g2 := g1.ext hx2
  have hF2 := hx1.trans hx2
  have hP2 := hP1.ext hx2
  have hQ2 := hQ1.ext hx2
  have hR2 := hR1.ext hx2
  by_cases hfree : A.free < 3
  · repeat (first | refine sp ?_ | (refine is_load ?_; refine ld ?_) | (refine is_store ?_; refine sr ?_) | (refine is_alloc ?_; refine al ?_) | (refine is_box ?_; refine bx ?_) | (refine isl_load ?_; refine ldl ?_) | (refine isl_store ?_; refine srl ?_) | (refine isl_alloc ?_; refine all' ?_) | (refine isl_box ?_; refine bxl ?_))
    exact go_ret2 rfl rfl rfl ⟨_, rfl, Or.inl ⟨hfree, rfl, hF2⟩⟩
  have hl2 := hx2.size
  repeat (first | refine sp ?_ | (refine is_load ?_; refine ld ?_) | (refine is_store ?_; refine sr ?_) | (refine is_alloc ?_; refine al ?_) | (refine is_box ?_; refine bx ?_) | (refine isl_load ?_; refine ldl ?_) | (refine isl_store ?_; refine srl ?_) | (refine isl_alloc ?_; refine all' ?_) | (refine isl_box ?_; refine bxl ?_))
  have hE1 : A.makeE NP.key NP.val x y = 0 := mkE0 g2.snd hx hy (by omega) (by omega)
  refine go_call rfl rfl (c_node w2 lo p q A h NP x y g2 (fun i => by have := hb i; omega) hx hy hE1) ?_
  rintro _ w3 ⟨rfl, q3, B, g3, m3, hq3, hf3⟩
  have hF3 : Fr q.fp w w3 := (Fr.of_ext hF2).trans hf3
  have hP3 := hP2.fr hf3 (fun e => by have := hfl _ e; omega)
  have hQ3 := hQ2.fr hf3 (fun e => by have := hfl _ e; omega)
  have hR3 := hR2.fr hf3 (fun e => by have := hfl _ e; omega)
  have hl3 := hf3.size
  have hz3 := m3.size g2.snd hx hy
  generalize hi1 : A.top = i1 at *
  repeat (first | refine sp ?_ | (refine is_load ?_; refine ld ?_) | (refine is_store ?_; refine sr ?_) | (refine is_alloc ?_; refine al ?_) | (refine is_box ?_; refine bx ?_) | (refine isl_load ?_; refine ldl ?_) | (refine isl_store ?_; refine srl ?_) | (refine isl_alloc ?_; refine all' ?_) | (refine isl_box ?_; refine bxl ?_))
  have hE2 : B.makeE NR.key NR.val z u = 0 := mkE0 g3.snd (m3.kp.or hz) (m3.kp.or hu) (by rw [m3.kp.szOf hz, m3.kp.szOf hu]; omega) (by have := m3.free; omega)
  refine go_call rfl rfl (c_node w3 lo p q3 B _ NR z u g3 (fun i => by have := addH_le hb (k := i1) i; omega) (m3.kp.or hz) (m3.kp.or hu) hE2) ?_
  rintro _ w4 ⟨rfl, q4, C, g4, m4, hq4, hf4⟩
  have hq3' : ∀ b, q3.fp b → q.fp b ∨ w.heap.size + 3 ≤ b := fun b hb => (hq3 b hb).imp id fun e => by omega
  have hF4 : Fr q.fp w w4 := hF3.trans' hf4 fun b hb e => by
    rcases hq3' b e with e | e
    · exact e
    · omega
  have hP4 := hP3.fr hf4 (fun e => by rcases hq3' _ e with e | e; · have := hfl _ e; omega
                                      · omega)
  have hQ4 := hQ3.fr hf4 (fun e => by rcases hq3' _ e with e | e; · have := hfl _ e; omega
                                      · omega)
  have hl4 := hf4.size
  have hz4 := m4.size g3.snd (m3.kp.or hz) (m3.kp.or hu)
  rw [m3.kp.szOf hz, m3.kp.szOf hu] at hz4
  generalize hi2 : B.top = i2 at *
  have hu1 := (m4.kp.old i1 m3.use).1
  have hs1 : szOf C i1 = szOf B i1 := m4.kp.szOf (Or.inr m3.use)
  repeat (first | refine sp ?_ | (refine is_load ?_; refine ld ?_) | (refine is_store ?_; refine sr ?_) | (refine is_alloc ?_; refine al ?_) | (refine is_box ?_; refine bx ?_) | (refine isl_load ?_; refine ldl ?_) | (refine isl_store ?_; refine srl ?_) | (refine isl_alloc ?_; refine all' ?_) | (refine isl_box ?_; refine bxl ?_))
  have hE3 : C.makeE NQ.key NQ.val i1 i2 = 0 := mkE0 g4.snd (Or.inr hu1) (Or.inr m4.use) (by rw [hs1, hz3, hz4]; omega) (by have := m3.free; have := m4.free; omega)
  refine go_call rfl rfl (c_node w4 lo p q4 C _ NQ i1 i2 g4 (fun i => by have := addH_le (addH_le hb (k := i1)) (k := i2) i; omega) (Or.inr hu1) (Or.inr m4.use) hE3) ?_
  rintro _ w5 ⟨rfl, q5, E, g5, m5, hq5, hf5⟩
  have hq4' : ∀ b, q4.fp b → q.fp b ∨ w.heap.size + 3 ≤ b := fun b hb => by
    rcases hq4 b hb with e | e
    · exact hq3' b e
    · right; omega
  have hF5 : Fr q.fp w w5 := hF4.trans' hf5 fun b hb e => by
    rcases hq4' b e with e | e
    · exact e
    · omega
  have hl5 := hf5.size
  generalize hi3 : C.top = i3 at *
  have g5' : Ars w5 lo p q5 E (addH (addH (addH h i3) i2) i1) := g5.congr fun i _ => by unfold addH; omega
  have he1 : 0 < edges E i1 := edge_pos g5.ar.wf m5.use (Or.inl m5.lr.2.2.1)
  have he2 : 0 < edges E i2 := edge_pos g5.ar.wf m5.use (Or.inr m5.lr.2.2.2)
  repeat (first | refine sp ?_ | (refine is_load ?_; refine ld ?_) | (refine is_store ?_; refine sr ?_) | (refine is_alloc ?_; refine al ?_) | (refine is_box ?_; refine bx ?_) | (refine isl_load ?_; refine ldl ?_) | (refine isl_store ?_; refine srl ?_) | (refine isl_alloc ?_; refine all' ?_) | (refine isl_box ?_; refine bxl ?_))
  refine go_call rfl rfl (c_RelA w5 lo p q5 E _ i1 g5' (by have := addH_le (addH_le hb (k := i3)) (k := i2) i1; omega) (m5.kp.old i1 hu1).1 (by omega)) ?_
  rintro _ w6 ⟨rfl, q6, g6, hq6, hf6⟩
  have hq5' : ∀ b, q5.fp b → q.fp b ∨ w.heap.size + 3 ≤ b := fun b hb => by
    rcases hq5 b hb with e | e
    · exact hq4' b e
    · right; omega
  have hF6 : Fr q.fp w w6 := hF5.trans' hf6 fun b hb e => by
    rcases hq5' b e with e | e
    · exact e
    · omega
  have hl6 := hf6.size
  have he3 : edges (E.decC i1) i2 = edges E i2 := by unfold AR.decC; split <;> rfl
  have hu6 : (E.decC i1).used i2 = true := ((decC_kp E i1).old i2 (m5.kp.old i2 m4.use).1).1
  repeat (first | refine sp ?_ | (refine is_load ?_; refine ld ?_) | (refine is_store ?_; refine sr ?_) | (refine is_alloc ?_; refine al ?_) | (refine is_box ?_; refine bx ?_) | (refine isl_load ?_; refine ldl ?_) | (refine isl_store ?_; refine srl ?_) | (refine isl_alloc ?_; refine all' ?_) | (refine isl_box ?_; refine bxl ?_))
  refine go_call rfl rfl (c_RelA w6 lo p q6 (E.decC i1) _ i2 g6 (by have := addH_le hb (k := i3) i2; omega) hu6 (by rw [he3]; omega)) ?_
  rintro _ w7 ⟨rfl, q7, g7, hq7, hf7⟩
  have hq6' : ∀ b, q6.fp b → q.fp b ∨ w.heap.size + 3 ≤ b := fun b hb => by
    rcases hq6 b hb with e | e
    · exact hq5' b e
    · right; omega
  have hF7 : Fr q.fp w w7 := hF6.trans' hf7 fun b hb e => by
    rcases hq6' b e with e | e
    · exact e
    · omega
  have kR : Kp E ((E.decC i1).decC i2) := (decC_kp E i1).trans (decC_kp _ i2)
  repeat (first | refine sp ?_ | (refine is_load ?_; refine ld ?_) | (refine is_store ?_; refine sr ?_) | (refine is_alloc ?_; refine al ?_) | (refine is_box ?_; refine bx ?_) | (refine isl_load ?_; refine ldl ?_) | (refine isl_store ?_; refine srl ?_) | (refine isl_alloc ?_; refine all' ?_) | (refine isl_box ?_; refine bxl ?_))
  refine go_ret2 rfl rfl rfl ⟨_, rfl, Or.inr ⟨by omega, q7, _, i3, i1, i2, rfl, g7, ((m3.kp.trans m4.kp).trans m5.kp).trans kR, by rw [decC_free, decC_free]; have := m3.free; have := m4.free; have := m5.free; omega, (m5.isN.keep kR).before (m3.kp.trans m4.kp), ((m3.isN.keep m4.kp).keep m5.kp).keep kR, ((m4.isN.keep m5.kp).keep kR).before m3.kp, ?_, hF7⟩⟩
  intro b hb
  rcases hq7 b hb with e | e
  · rcases hq6' b e with e | e
    · exact Or.inl e
    · right; omega
  · right; omega

def fDL (A : AR) (i : Nat) : Prop := A.used i = true ∧ A.used (A.node i).right = true ∧ A.used (A.node (A.node i).right).left = true
def fDR (A : AR) (i : Nat) : Prop := A.used i = true ∧ A.used (A.node i).left = true ∧ A.used (A.node (A.node i).left).right = true
/-- (x p y) q (z r u). -/
def gD (A : AR) (x y z u : Nat) (P Q R0 : Nd) (R : AR) (o : Nat) : Prop := ∃ j k, IsN A R o Q.key Q.val j k ∧ IsN A R j P.key P.val x y ∧ IsN A R k R0.key R0.val z u
def gDL (A : AR) (i : Nat) (R : AR) (o : Nat) : Prop := gD A (A.node i).left (A.node (A.node (A.node i).right).left).left (A.node (A.node (A.node i).right).left).right (A.node (A.node i).right).right (A.node i) (A.node (A.node (A.node i).right).left) (A.node (A.node i).right) R o
def gDR (A : AR) (i : Nat) (R : AR) (o : Nat) : Prop := gD A (A.node (A.node i).left).left (A.node (A.node (A.node i).left).right).left (A.node (A.node (A.node i).left).right).right (A.node i).right (A.node (A.node i).left) (A.node (A.node (A.node i).left).right) (A.node i) R o

set_option maxHeartbeats 8000000 in
theorem c_DoubleLeft (w : World) (lo p : Nat) (q : AP) (A : AR) (h : Nat → Nat) (i : Nat) (g : Ars w lo p q A h) (hb : ∀ i, h i ≤ 1000000) (hi : i < 4294967296) :
    Calls Try.prog 46 [ptr p, .int .u32 (i : Int)].toArray w (Ret fun v w' => RotOk w lo p q A h (fDL A i) 3 (gDL A i) v w' ∨ RotBad w lo p q A h 3 (fDL A i) 3 v w') := by
  have hpl := g.ar.lt p g.ar.fpp
  have hfl := g.ar.lt
  have hpf := g.ar.fpp
  refine calls_go Try.func46 rfl Try.ntmps46 (Nat.le_of_ble_eq_true rfl) ?_
  repeat (first | refine sp ?_ | (refine is_load ?_; refine ld ?_) | (refine is_store ?_; refine sr ?_) | (refine is_alloc ?_; refine al ?_) | (refine is_box ?_; refine bx ?_) | (refine isl_load ?_; refine ldl ?_) | (refine isl_store ?_; refine srl ?_) | (refine isl_alloc ?_; refine all' ?_) | (refine isl_box ?_; refine bxl ?_))
  refine go_call rfl rfl (c_child w lo p q A i g.ar hi) ?_
  rintro _ w1 ⟨rfl, ha1, hf1⟩
  have g1 : Ars w1 lo p q (A.read i) h := g.rd ha1 (Rds.read A i) hf1
  have hl1 := hf1.size
  cases hu : A.used i with
  | false =>
    rw [nodeOf_un hu]
    unfold Nd.zero Nd.cells
    repeat (first | refine sp ?_ | (refine is_load ?_; refine ld ?_) | (refine is_store ?_; refine sr ?_) | (refine is_alloc ?_; refine al ?_) | (refine is_box ?_; refine bx ?_) | (refine isl_load ?_; refine ldl ?_) | (refine isl_store ?_; refine srl ?_) | (refine isl_alloc ?_; refine all' ?_) | (refine isl_box ?_; refine bxl ?_))
    exact go_ret2 rfl rfl rfl ⟨_, rfl, Or.inr ⟨1, _, rfl, Or.inl ⟨rfl, fun h => by rw [h.1] at hu; cases hu⟩, g1.ext (by (repeat (first | exact Fr.refl _ _ | assumption | apply Fr.drewN | apply Fr.alloc | (apply Fr.transF; assumption) | (refine Fr.setRow ?_ _ (by first | exact Or.inr (by (first | omega | (simp; done) | (simp; omega))) | (exact Or.inl (by first | assumption | (simp; done)))))))), (Rds.read A i).mono (by omega), (hf1.mono fun b e => by rw [e]; exact hpf).trans (Fr.of_ext (by (repeat (first | exact Fr.refl _ _ | assumption | apply Fr.drewN | apply Fr.alloc | (apply Fr.transF; assumption) | (refine Fr.setRow ?_ _ (by first | exact Or.inr (by (first | omega | (simp; done) | (simp; omega))) | (exact Or.inl (by first | assumption | (simp; done)))))))))⟩⟩
  | true =>
    rw [nodeOf_us hu]
    obtain ⟨kl, kr⟩ := g.snd.kid i hu
    have hbig := g.snd.bigS hu
    generalize hX : A.node i = X at *
    unfold Nd.cells
    repeat (first | refine sp ?_ | (refine is_load ?_; refine ld ?_) | (refine is_store ?_; refine sr ?_) | (refine is_alloc ?_; refine al ?_) | (refine is_box ?_; refine bx ?_) | (refine isl_load ?_; refine ldl ?_) | (refine isl_store ?_; refine srl ?_) | (refine isl_alloc ?_; refine all' ?_) | (refine isl_box ?_; refine bxl ?_))
    refine go_name (F := fun w2 => At w2 w1.heap.size [.int .i64 X.key, .int .i64 X.val, .int .u32 (X.left : Int), .int .u32 (X.right : Int), .int .i64 X.size, .int .i64 X.sum, .int .i64 X.mn, .int .i64 X.mx] 41 ∧ Ext w1 w2 ∧ w1.heap.size + 1 ≤ w2.heap.size) ⟨by (repeat (first | assumption | (refine At.new' (by (first | omega | (simp; done) | (simp; omega))) _ _) | apply At.alloc | apply At.drewN | apply At.setRow | (apply At.setRow_neF; first | assumption | (apply Ne.symm; assumption) | omega) | (apply At.extF; assumption))), by (repeat (first | exact Fr.refl _ _ | assumption | apply Fr.drewN | apply Fr.alloc | (apply Fr.transF; assumption) | (refine Fr.setRow ?_ _ (by first | exact Or.inr (by (first | omega | (simp; done) | (simp; omega))) | (exact Or.inl (by first | assumption | (simp; done))))))), by simp⟩ ?_
    rintro w2 ⟨hX2, hx2, hl2⟩
    have g2 := g1.ext hx2
    refine go_call rfl rfl (c_child w2 lo p q (A.read i) X.right g2.ar (used_lt g.ar.wf kr)) ?_
    rintro _ w3 ⟨rfl, ha3, hf3⟩
    have g3 : Ars w3 lo p q ((A.read i).read X.right) h := g2.rd ha3 (Rds.read _ _) hf3
    have hl3 := hf3.size
    have hX3 := hX2.fr hf3 (by omega)
    have hr3 : Rds A ((A.read i).read X.right) 2 := (Rds.read A i).trans (Rds.read _ _)
    have hF3 : Fr q.fp w w3 := ((hf1.mono fun b e => by rw [e]; exact hpf).trans (Fr.of_ext hx2)).trans (hf3.mono fun b e => by rw [e]; exact hpf)
    have eu : (A.read i).used = A.used := (Rds.read A i).used
    have en : (A.read i).nodeOf X.right = A.nodeOf X.right := (Rds.read A i).nodeOf _
    rw [eu, en]
    cases hu2 : A.used X.right with
    | false =>
      rw [nodeOf_un hu2]
      unfold Nd.zero Nd.cells
      repeat (first | refine sp ?_ | (refine is_load ?_; refine ld ?_) | (refine is_store ?_; refine sr ?_) | (refine is_alloc ?_; refine al ?_) | (refine is_box ?_; refine bx ?_) | (refine isl_load ?_; refine ldl ?_) | (refine isl_store ?_; refine srl ?_) | (refine isl_alloc ?_; refine all' ?_) | (refine isl_box ?_; refine bxl ?_))
      exact go_ret2 rfl rfl rfl ⟨_, rfl, Or.inr ⟨1, _, rfl, Or.inl ⟨rfl, fun h => by have := h.2.1; rw [hX, hu2] at this; cases this⟩, g3.ext (by (repeat (first | exact Fr.refl _ _ | assumption | apply Fr.drewN | apply Fr.alloc | (apply Fr.transF; assumption) | (refine Fr.setRow ?_ _ (by first | exact Or.inr (by (first | omega | (simp; done) | (simp; omega))) | (exact Or.inl (by first | assumption | (simp; done)))))))), hr3.mono (by omega), hF3.trans (Fr.of_ext (by (repeat (first | exact Fr.refl _ _ | assumption | apply Fr.drewN | apply Fr.alloc | (apply Fr.transF; assumption) | (refine Fr.setRow ?_ _ (by first | exact Or.inr (by (first | omega | (simp; done) | (simp; omega))) | (exact Or.inl (by first | assumption | (simp; done)))))))))⟩⟩
    | true =>
      rw [nodeOf_us hu2]
      obtain ⟨kl2, kr2⟩ := g.snd.kid X.right hu2
      have hbig2 := g.snd.bigS hu2
      generalize hY : A.node X.right = Y at *
      unfold Nd.cells
      repeat (first | refine sp ?_ | (refine is_load ?_; refine ld ?_) | (refine is_store ?_; refine sr ?_) | (refine is_alloc ?_; refine al ?_) | (refine is_box ?_; refine bx ?_) | (refine isl_load ?_; refine ldl ?_) | (refine isl_store ?_; refine srl ?_) | (refine isl_alloc ?_; refine all' ?_) | (refine isl_box ?_; refine bxl ?_))
      refine go_name (F := fun w4 => At w4 w1.heap.size [.int .i64 X.key, .int .i64 X.val, .int .u32 (X.left : Int), .int .u32 (X.right : Int), .int .i64 X.size, .int .i64 X.sum, .int .i64 X.mn, .int .i64 X.mx] 41 ∧ At w4 w3.heap.size [.int .i64 Y.key, .int .i64 Y.val, .int .u32 (Y.left : Int), .int .u32 (Y.right : Int), .int .i64 Y.size, .int .i64 Y.sum, .int .i64 Y.mn, .int .i64 Y.mx] 41 ∧ Ext w3 w4 ∧ w3.heap.size + 1 ≤ w4.heap.size) ⟨by (repeat (first | assumption | (refine At.new' (by (first | omega | (simp; done) | (simp; omega))) _ _) | apply At.alloc | apply At.drewN | apply At.setRow | (apply At.setRow_neF; first | assumption | (apply Ne.symm; assumption) | omega) | (apply At.extF; assumption))), by (repeat (first | assumption | (refine At.new' (by (first | omega | (simp; done) | (simp; omega))) _ _) | apply At.alloc | apply At.drewN | apply At.setRow | (apply At.setRow_neF; first | assumption | (apply Ne.symm; assumption) | omega) | (apply At.extF; assumption))), by (repeat (first | exact Fr.refl _ _ | assumption | apply Fr.drewN | apply Fr.alloc | (apply Fr.transF; assumption) | (refine Fr.setRow ?_ _ (by first | exact Or.inr (by (first | omega | (simp; done) | (simp; omega))) | (exact Or.inl (by first | assumption | (simp; done))))))), by simp⟩ ?_
      rintro w4 ⟨hX4, hY4, hx4, hl4⟩
      have g4 := g3.ext hx4
      have hF4 := hF3.trans (Fr.of_ext hx4)
      generalize hbx : w1.heap.size = bx at *
      generalize hby : w3.heap.size = by_ at *
      generalize hA2 : (A.read i).read X.right = A2 at *
      refine go_call rfl rfl (c_child w4 lo p q A2 Y.left g4.ar (used_lt g.ar.wf kl2)) ?_
      rintro _ w5 ⟨rfl, ha5, hf5⟩
      have g5 : Ars w5 lo p q (A2.read Y.left) h := g4.rd ha5 (Rds.read _ _) hf5
      have hl5 := hf5.size
      have hX5 := hX4.fr hf5 (by omega)
      have hY5 := hY4.fr hf5 (by omega)
      have hr5 : Rds A (A2.read Y.left) 3 := hr3.trans (Rds.read _ _)
      have hF5 : Fr q.fp w w5 := hF4.trans (hf5.mono fun b e => by rw [e]; exact hpf)
      rw [hr3.used, hr3.nodeOf]
      cases hu3 : A.used Y.left with
      | false =>
        rw [nodeOf_un hu3]
        unfold Nd.zero Nd.cells
        repeat (first | refine sp ?_ | (refine is_load ?_; refine ld ?_) | (refine is_store ?_; refine sr ?_) | (refine is_alloc ?_; refine al ?_) | (refine is_box ?_; refine bx ?_) | (refine isl_load ?_; refine ldl ?_) | (refine isl_store ?_; refine srl ?_) | (refine isl_alloc ?_; refine all' ?_) | (refine isl_box ?_; refine bxl ?_))
        exact go_ret2 rfl rfl rfl ⟨_, rfl, Or.inr ⟨1, _, rfl, Or.inl ⟨rfl, fun h => by have := h.2.2; rw [hX, hY, hu3] at this; cases this⟩, g5.ext (by (repeat (first | exact Fr.refl _ _ | assumption | apply Fr.drewN | apply Fr.alloc | (apply Fr.transF; assumption) | (refine Fr.setRow ?_ _ (by first | exact Or.inr (by (first | omega | (simp; done) | (simp; omega))) | (exact Or.inl (by first | assumption | (simp; done)))))))), hr5, hF5.trans (Fr.of_ext (by (repeat (first | exact Fr.refl _ _ | assumption | apply Fr.drewN | apply Fr.alloc | (apply Fr.transF; assumption) | (refine Fr.setRow ?_ _ (by first | exact Or.inr (by (first | omega | (simp; done) | (simp; omega))) | (exact Or.inl (by first | assumption | (simp; done)))))))))⟩⟩
      | true =>
        rw [nodeOf_us hu3]
        have hF : fDL A i := ⟨hu, by rw [hX]; exact hu2, by rw [hX, hY]; exact hu3⟩
        obtain ⟨kl3, kr3⟩ := g.snd.kid Y.left hu3
        have hbig3 := g.snd.bigS hu3
        generalize hZ : A.node Y.left = Z at *
        have hfr : (A2.read Y.left).free = A.free := hr5.free
        have hkp := hr5.kp
        unfold Nd.cells
        repeat (first | refine sp ?_ | (refine is_load ?_; refine ld ?_) | (refine is_store ?_; refine sr ?_) | (refine is_alloc ?_; refine al ?_) | (refine is_box ?_; refine bx ?_) | (refine isl_load ?_; refine ldl ?_) | (refine isl_store ?_; refine srl ?_) | (refine isl_alloc ?_; refine all' ?_) | (refine isl_box ?_; refine bxl ?_))
        refine go_name (F := fun w6 => At w6 bx [.int .i64 X.key, .int .i64 X.val, .int .u32 (X.left : Int), .int .u32 (X.right : Int), .int .i64 X.size, .int .i64 X.sum, .int .i64 X.mn, .int .i64 X.mx] 41 ∧ At w6 by_ [.int .i64 Y.key, .int .i64 Y.val, .int .u32 (Y.left : Int), .int .u32 (Y.right : Int), .int .i64 Y.size, .int .i64 Y.sum, .int .i64 Y.mn, .int .i64 Y.mx] 41 ∧ At w6 w5.heap.size [.int .i64 Z.key, .int .i64 Z.val, .int .u32 (Z.left : Int), .int .u32 (Z.right : Int), .int .i64 Z.size, .int .i64 Z.sum, .int .i64 Z.mn, .int .i64 Z.mx] 41 ∧ Ext w5 w6) ⟨by (repeat (first | assumption | (refine At.new' (by (first | omega | (simp; done) | (simp; omega))) _ _) | apply At.alloc | apply At.drewN | apply At.setRow | (apply At.setRow_neF; first | assumption | (apply Ne.symm; assumption) | omega) | (apply At.extF; assumption))), by (repeat (first | assumption | (refine At.new' (by (first | omega | (simp; done) | (simp; omega))) _ _) | apply At.alloc | apply At.drewN | apply At.setRow | (apply At.setRow_neF; first | assumption | (apply Ne.symm; assumption) | omega) | (apply At.extF; assumption))), by (repeat (first | assumption | (refine At.new' (by (first | omega | (simp; done) | (simp; omega))) _ _) | apply At.alloc | apply At.drewN | apply At.setRow | (apply At.setRow_neF; first | assumption | (apply Ne.symm; assumption) | omega) | (apply At.extF; assumption))), by (repeat (first | exact Fr.refl _ _ | assumption | apply Fr.drewN | apply Fr.alloc | (apply Fr.transF; assumption) | (refine Fr.setRow ?_ _ (by first | exact Or.inr (by (first | omega | (simp; done) | (simp; omega))) | (exact Or.inl (by first | assumption | (simp; done)))))))⟩ ?_
        rintro w6 ⟨hX6, hY6, hZ6, hx6⟩
        have g6 := g5.ext hx6
        have hF6 := hF5.trans (Fr.of_ext hx6)
        generalize hA3 : A2.read Y.left = A3 at *
        have zs : ∀ c, c = 0 ∨ A.used c = true → szOf A3 c = szOf A c := fun c hc => hkp.szOf hc
        refine go_call rfl rfl (c_three w6 lo p q A3 h X.left Z.left Z.right Y.right X Z Y g6 hb (hkp.or kl) (hkp.or kl3) (hkp.or kr3) (hkp.or kr2) (by rw [zs _ kl, zs _ kl3, zs _ kr3, zs _ kr2]; omega)) ?_
        rintro v7 w7 (⟨hfree, rfl, hx7⟩ | ⟨hfree, q7, R, o, j, k, rfl, g7, kp7, hf7, n1, n2, n3, hq7, hfr7⟩)
        · repeat (first | refine sp ?_ | (refine is_load ?_; refine ld ?_) | (refine is_store ?_; refine sr ?_) | (refine is_alloc ?_; refine al ?_) | (refine is_box ?_; refine bx ?_) | (refine isl_load ?_; refine ldl ?_) | (refine isl_store ?_; refine srl ?_) | (refine isl_alloc ?_; refine all' ?_) | (refine isl_box ?_; refine bxl ?_))
          exact go_ret2 rfl rfl rfl ⟨_, rfl, Or.inr ⟨2, _, rfl, Or.inr ⟨rfl, hF, by omega⟩, g6.ext hx7, hr5, hF6.trans (Fr.of_ext hx7)⟩⟩
        · repeat (first | refine sp ?_ | (refine is_load ?_; refine ld ?_) | (refine is_store ?_; refine sr ?_) | (refine is_alloc ?_; refine al ?_) | (refine is_box ?_; refine bx ?_) | (refine isl_load ?_; refine ldl ?_) | (refine isl_store ?_; refine srl ?_) | (refine isl_alloc ?_; refine all' ?_) | (refine isl_box ?_; refine bxl ?_))
          refine go_ret2 rfl rfl rfl ⟨_, rfl, Or.inl ⟨hF, by omega, q7, R, o, rfl, g7, hkp.trans kp7, by omega, ⟨j, k, ?_, ?_, ?_⟩, ?_, hF6.trans hfr7⟩⟩
          · rw [hX, hY, hZ]; exact n1.before hkp
          · rw [hX, hY, hZ]; exact n2.before hkp
          · rw [hX, hY, hZ]; exact n3.before hkp
          · intro b hb
            rcases hq7 b hb with e | e
            · exact Or.inl e
            · right; have := hF6.size; omega

set_option maxHeartbeats 8000000 in
theorem c_DoubleRight (w : World) (lo p : Nat) (q : AP) (A : AR) (h : Nat → Nat) (i : Nat) (g : Ars w lo p q A h) (hb : ∀ i, h i ≤ 1000000) (hi : i < 4294967296) :
    Calls Try.prog 47 [ptr p, .int .u32 (i : Int)].toArray w (Ret fun v w' => RotOk w lo p q A h (fDR A i) 3 (gDR A i) v w' ∨ RotBad w lo p q A h 3 (fDR A i) 3 v w') := by
  have hpl := g.ar.lt p g.ar.fpp
  have hfl := g.ar.lt
  have hpf := g.ar.fpp
  refine calls_go Try.func47 rfl Try.ntmps47 (Nat.le_of_ble_eq_true rfl) ?_
  repeat (first | refine sp ?_ | (refine is_load ?_; refine ld ?_) | (refine is_store ?_; refine sr ?_) | (refine is_alloc ?_; refine al ?_) | (refine is_box ?_; refine bx ?_) | (refine isl_load ?_; refine ldl ?_) | (refine isl_store ?_; refine srl ?_) | (refine isl_alloc ?_; refine all' ?_) | (refine isl_box ?_; refine bxl ?_))
  refine go_call rfl rfl (c_child w lo p q A i g.ar hi) ?_
  rintro _ w1 ⟨rfl, ha1, hf1⟩
  have g1 : Ars w1 lo p q (A.read i) h := g.rd ha1 (Rds.read A i) hf1
  have hl1 := hf1.size
  cases hu : A.used i with
  | false =>
    rw [nodeOf_un hu]
    unfold Nd.zero Nd.cells
    repeat (first | refine sp ?_ | (refine is_load ?_; refine ld ?_) | (refine is_store ?_; refine sr ?_) | (refine is_alloc ?_; refine al ?_) | (refine is_box ?_; refine bx ?_) | (refine isl_load ?_; refine ldl ?_) | (refine isl_store ?_; refine srl ?_) | (refine isl_alloc ?_; refine all' ?_) | (refine isl_box ?_; refine bxl ?_))
    exact go_ret2 rfl rfl rfl ⟨_, rfl, Or.inr ⟨1, _, rfl, Or.inl ⟨rfl, fun h => by rw [h.1] at hu; cases hu⟩, g1.ext (by (repeat (first | exact Fr.refl _ _ | assumption | apply Fr.drewN | apply Fr.alloc | (apply Fr.transF; assumption) | (refine Fr.setRow ?_ _ (by first | exact Or.inr (by (first | omega | (simp; done) | (simp; omega))) | (exact Or.inl (by first | assumption | (simp; done)))))))), (Rds.read A i).mono (by omega), (hf1.mono fun b e => by rw [e]; exact hpf).trans (Fr.of_ext (by (repeat (first | exact Fr.refl _ _ | assumption | apply Fr.drewN | apply Fr.alloc | (apply Fr.transF; assumption) | (refine Fr.setRow ?_ _ (by first | exact Or.inr (by (first | omega | (simp; done) | (simp; omega))) | (exact Or.inl (by first | assumption | (simp; done)))))))))⟩⟩
  | true =>
    rw [nodeOf_us hu]
    obtain ⟨kl, kr⟩ := g.snd.kid i hu
    have hbig := g.snd.bigS hu
    generalize hX : A.node i = X at *
    unfold Nd.cells
    repeat (first | refine sp ?_ | (refine is_load ?_; refine ld ?_) | (refine is_store ?_; refine sr ?_) | (refine is_alloc ?_; refine al ?_) | (refine is_box ?_; refine bx ?_) | (refine isl_load ?_; refine ldl ?_) | (refine isl_store ?_; refine srl ?_) | (refine isl_alloc ?_; refine all' ?_) | (refine isl_box ?_; refine bxl ?_))
    refine go_name (F := fun w2 => At w2 w1.heap.size [.int .i64 X.key, .int .i64 X.val, .int .u32 (X.left : Int), .int .u32 (X.right : Int), .int .i64 X.size, .int .i64 X.sum, .int .i64 X.mn, .int .i64 X.mx] 41 ∧ Ext w1 w2 ∧ w1.heap.size + 1 ≤ w2.heap.size) ⟨by (repeat (first | assumption | (refine At.new' (by (first | omega | (simp; done) | (simp; omega))) _ _) | apply At.alloc | apply At.drewN | apply At.setRow | (apply At.setRow_neF; first | assumption | (apply Ne.symm; assumption) | omega) | (apply At.extF; assumption))), by (repeat (first | exact Fr.refl _ _ | assumption | apply Fr.drewN | apply Fr.alloc | (apply Fr.transF; assumption) | (refine Fr.setRow ?_ _ (by first | exact Or.inr (by (first | omega | (simp; done) | (simp; omega))) | (exact Or.inl (by first | assumption | (simp; done))))))), by simp⟩ ?_
    rintro w2 ⟨hX2, hx2, hl2⟩
    have g2 := g1.ext hx2
    refine go_call rfl rfl (c_child w2 lo p q (A.read i) X.left g2.ar (used_lt g.ar.wf kl)) ?_
    rintro _ w3 ⟨rfl, ha3, hf3⟩
    have g3 : Ars w3 lo p q ((A.read i).read X.left) h := g2.rd ha3 (Rds.read _ _) hf3
    have hl3 := hf3.size
    have hX3 := hX2.fr hf3 (by omega)
    have hr3 : Rds A ((A.read i).read X.left) 2 := (Rds.read A i).trans (Rds.read _ _)
    have hF3 : Fr q.fp w w3 := ((hf1.mono fun b e => by rw [e]; exact hpf).trans (Fr.of_ext hx2)).trans (hf3.mono fun b e => by rw [e]; exact hpf)
    have eu : (A.read i).used = A.used := (Rds.read A i).used
    have en : (A.read i).nodeOf X.left = A.nodeOf X.left := (Rds.read A i).nodeOf _
    rw [eu, en]
    cases hu2 : A.used X.left with
    | false =>
      rw [nodeOf_un hu2]
      unfold Nd.zero Nd.cells
      repeat (first | refine sp ?_ | (refine is_load ?_; refine ld ?_) | (refine is_store ?_; refine sr ?_) | (refine is_alloc ?_; refine al ?_) | (refine is_box ?_; refine bx ?_) | (refine isl_load ?_; refine ldl ?_) | (refine isl_store ?_; refine srl ?_) | (refine isl_alloc ?_; refine all' ?_) | (refine isl_box ?_; refine bxl ?_))
      exact go_ret2 rfl rfl rfl ⟨_, rfl, Or.inr ⟨1, _, rfl, Or.inl ⟨rfl, fun h => by have := h.2.1; rw [hX, hu2] at this; cases this⟩, g3.ext (by (repeat (first | exact Fr.refl _ _ | assumption | apply Fr.drewN | apply Fr.alloc | (apply Fr.transF; assumption) | (refine Fr.setRow ?_ _ (by first | exact Or.inr (by (first | omega | (simp; done) | (simp; omega))) | (exact Or.inl (by first | assumption | (simp; done)))))))), hr3.mono (by omega), hF3.trans (Fr.of_ext (by (repeat (first | exact Fr.refl _ _ | assumption | apply Fr.drewN | apply Fr.alloc | (apply Fr.transF; assumption) | (refine Fr.setRow ?_ _ (by first | exact Or.inr (by (first | omega | (simp; done) | (simp; omega))) | (exact Or.inl (by first | assumption | (simp; done)))))))))⟩⟩
    | true =>
      rw [nodeOf_us hu2]
      obtain ⟨kl2, kr2⟩ := g.snd.kid X.left hu2
      have hbig2 := g.snd.bigS hu2
      generalize hY : A.node X.left = Y at *
      unfold Nd.cells
      repeat (first | refine sp ?_ | (refine is_load ?_; refine ld ?_) | (refine is_store ?_; refine sr ?_) | (refine is_alloc ?_; refine al ?_) | (refine is_box ?_; refine bx ?_) | (refine isl_load ?_; refine ldl ?_) | (refine isl_store ?_; refine srl ?_) | (refine isl_alloc ?_; refine all' ?_) | (refine isl_box ?_; refine bxl ?_))
      refine go_name (F := fun w4 => At w4 w1.heap.size [.int .i64 X.key, .int .i64 X.val, .int .u32 (X.left : Int), .int .u32 (X.right : Int), .int .i64 X.size, .int .i64 X.sum, .int .i64 X.mn, .int .i64 X.mx] 41 ∧ At w4 w3.heap.size [.int .i64 Y.key, .int .i64 Y.val, .int .u32 (Y.left : Int), .int .u32 (Y.right : Int), .int .i64 Y.size, .int .i64 Y.sum, .int .i64 Y.mn, .int .i64 Y.mx] 41 ∧ Ext w3 w4 ∧ w3.heap.size + 1 ≤ w4.heap.size) ⟨by (repeat (first | assumption | (refine At.new' (by (first | omega | (simp; done) | (simp; omega))) _ _) | apply At.alloc | apply At.drewN | apply At.setRow | (apply At.setRow_neF; first | assumption | (apply Ne.symm; assumption) | omega) | (apply At.extF; assumption))), by (repeat (first | assumption | (refine At.new' (by (first | omega | (simp; done) | (simp; omega))) _ _) | apply At.alloc | apply At.drewN | apply At.setRow | (apply At.setRow_neF; first | assumption | (apply Ne.symm; assumption) | omega) | (apply At.extF; assumption))), by (repeat (first | exact Fr.refl _ _ | assumption | apply Fr.drewN | apply Fr.alloc | (apply Fr.transF; assumption) | (refine Fr.setRow ?_ _ (by first | exact Or.inr (by (first | omega | (simp; done) | (simp; omega))) | (exact Or.inl (by first | assumption | (simp; done))))))), by simp⟩ ?_
      rintro w4 ⟨hX4, hY4, hx4, hl4⟩
      have g4 := g3.ext hx4
      have hF4 := hF3.trans (Fr.of_ext hx4)
      generalize hbx : w1.heap.size = bx at *
      generalize hby : w3.heap.size = by_ at *
      generalize hA2 : (A.read i).read X.left = A2 at *
      refine go_call rfl rfl (c_child w4 lo p q A2 Y.right g4.ar (used_lt g.ar.wf kr2)) ?_
      rintro _ w5 ⟨rfl, ha5, hf5⟩
      have g5 : Ars w5 lo p q (A2.read Y.right) h := g4.rd ha5 (Rds.read _ _) hf5
      have hl5 := hf5.size
      have hX5 := hX4.fr hf5 (by omega)
      have hY5 := hY4.fr hf5 (by omega)
      have hr5 : Rds A (A2.read Y.right) 3 := hr3.trans (Rds.read _ _)
      have hF5 : Fr q.fp w w5 := hF4.trans (hf5.mono fun b e => by rw [e]; exact hpf)
      rw [hr3.used, hr3.nodeOf]
      cases hu3 : A.used Y.right with
      | false =>
        rw [nodeOf_un hu3]
        unfold Nd.zero Nd.cells
        repeat (first | refine sp ?_ | (refine is_load ?_; refine ld ?_) | (refine is_store ?_; refine sr ?_) | (refine is_alloc ?_; refine al ?_) | (refine is_box ?_; refine bx ?_) | (refine isl_load ?_; refine ldl ?_) | (refine isl_store ?_; refine srl ?_) | (refine isl_alloc ?_; refine all' ?_) | (refine isl_box ?_; refine bxl ?_))
        exact go_ret2 rfl rfl rfl ⟨_, rfl, Or.inr ⟨1, _, rfl, Or.inl ⟨rfl, fun h => by have := h.2.2; rw [hX, hY, hu3] at this; cases this⟩, g5.ext (by (repeat (first | exact Fr.refl _ _ | assumption | apply Fr.drewN | apply Fr.alloc | (apply Fr.transF; assumption) | (refine Fr.setRow ?_ _ (by first | exact Or.inr (by (first | omega | (simp; done) | (simp; omega))) | (exact Or.inl (by first | assumption | (simp; done)))))))), hr5, hF5.trans (Fr.of_ext (by (repeat (first | exact Fr.refl _ _ | assumption | apply Fr.drewN | apply Fr.alloc | (apply Fr.transF; assumption) | (refine Fr.setRow ?_ _ (by first | exact Or.inr (by (first | omega | (simp; done) | (simp; omega))) | (exact Or.inl (by first | assumption | (simp; done)))))))))⟩⟩
      | true =>
        rw [nodeOf_us hu3]
        have hF : fDR A i := ⟨hu, by rw [hX]; exact hu2, by rw [hX, hY]; exact hu3⟩
        obtain ⟨kl3, kr3⟩ := g.snd.kid Y.right hu3
        have hbig3 := g.snd.bigS hu3
        generalize hZ : A.node Y.right = Z at *
        have hfr : (A2.read Y.right).free = A.free := hr5.free
        have hkp := hr5.kp
        unfold Nd.cells
        repeat (first | refine sp ?_ | (refine is_load ?_; refine ld ?_) | (refine is_store ?_; refine sr ?_) | (refine is_alloc ?_; refine al ?_) | (refine is_box ?_; refine bx ?_) | (refine isl_load ?_; refine ldl ?_) | (refine isl_store ?_; refine srl ?_) | (refine isl_alloc ?_; refine all' ?_) | (refine isl_box ?_; refine bxl ?_))
        refine go_name (F := fun w6 => At w6 bx [.int .i64 X.key, .int .i64 X.val, .int .u32 (X.left : Int), .int .u32 (X.right : Int), .int .i64 X.size, .int .i64 X.sum, .int .i64 X.mn, .int .i64 X.mx] 41 ∧ At w6 by_ [.int .i64 Y.key, .int .i64 Y.val, .int .u32 (Y.left : Int), .int .u32 (Y.right : Int), .int .i64 Y.size, .int .i64 Y.sum, .int .i64 Y.mn, .int .i64 Y.mx] 41 ∧ At w6 w5.heap.size [.int .i64 Z.key, .int .i64 Z.val, .int .u32 (Z.left : Int), .int .u32 (Z.right : Int), .int .i64 Z.size, .int .i64 Z.sum, .int .i64 Z.mn, .int .i64 Z.mx] 41 ∧ Ext w5 w6) ⟨by (repeat (first | assumption | (refine At.new' (by (first | omega | (simp; done) | (simp; omega))) _ _) | apply At.alloc | apply At.drewN | apply At.setRow | (apply At.setRow_neF; first | assumption | (apply Ne.symm; assumption) | omega) | (apply At.extF; assumption))), by (repeat (first | assumption | (refine At.new' (by (first | omega | (simp; done) | (simp; omega))) _ _) | apply At.alloc | apply At.drewN | apply At.setRow | (apply At.setRow_neF; first | assumption | (apply Ne.symm; assumption) | omega) | (apply At.extF; assumption))), by (repeat (first | assumption | (refine At.new' (by (first | omega | (simp; done) | (simp; omega))) _ _) | apply At.alloc | apply At.drewN | apply At.setRow | (apply At.setRow_neF; first | assumption | (apply Ne.symm; assumption) | omega) | (apply At.extF; assumption))), by (repeat (first | exact Fr.refl _ _ | assumption | apply Fr.drewN | apply Fr.alloc | (apply Fr.transF; assumption) | (refine Fr.setRow ?_ _ (by first | exact Or.inr (by (first | omega | (simp; done) | (simp; omega))) | (exact Or.inl (by first | assumption | (simp; done)))))))⟩ ?_
        rintro w6 ⟨hX6, hY6, hZ6, hx6⟩
        have g6 := g5.ext hx6
        have hF6 := hF5.trans (Fr.of_ext hx6)
        generalize hA3 : A2.read Y.right = A3 at *
        have zs : ∀ c, c = 0 ∨ A.used c = true → szOf A3 c = szOf A c := fun c hc => hkp.szOf hc
        refine go_call rfl rfl (c_three w6 lo p q A3 h Y.left Z.left Z.right X.right Y Z X g6 hb (hkp.or kl2) (hkp.or kl3) (hkp.or kr3) (hkp.or kr) (by rw [zs _ kl2, zs _ kl3, zs _ kr3, zs _ kr]; omega)) ?_
        rintro v7 w7 (⟨hfree, rfl, hx7⟩ | ⟨hfree, q7, R, o, j, k, rfl, g7, kp7, hf7, n1, n2, n3, hq7, hfr7⟩)
        · repeat (first | refine sp ?_ | (refine is_load ?_; refine ld ?_) | (refine is_store ?_; refine sr ?_) | (refine is_alloc ?_; refine al ?_) | (refine is_box ?_; refine bx ?_) | (refine isl_load ?_; refine ldl ?_) | (refine isl_store ?_; refine srl ?_) | (refine isl_alloc ?_; refine all' ?_) | (refine isl_box ?_; refine bxl ?_))
          exact go_ret2 rfl rfl rfl ⟨_, rfl, Or.inr ⟨2, _, rfl, Or.inr ⟨rfl, hF, by omega⟩, g6.ext hx7, hr5, hF6.trans (Fr.of_ext hx7)⟩⟩
        · repeat (first | refine sp ?_ | (refine is_load ?_; refine ld ?_) | (refine is_store ?_; refine sr ?_) | (refine is_alloc ?_; refine al ?_) | (refine is_box ?_; refine bx ?_) | (refine isl_load ?_; refine ldl ?_) | (refine isl_store ?_; refine srl ?_) | (refine isl_alloc ?_; refine all' ?_) | (refine isl_box ?_; refine bxl ?_))
          refine go_ret2 rfl rfl rfl ⟨_, rfl, Or.inl ⟨hF, by omega, q7, R, o, rfl, g7, hkp.trans kp7, by omega, ⟨j, k, ?_, ?_, ?_⟩, ?_, hF6.trans hfr7⟩⟩
          · rw [hX, hY, hZ]; exact n1.before hkp
          · rw [hX, hY, hZ]; exact n2.before hkp
          · rw [hX, hY, hZ]; exact n3.before hkp
          · intro b hb
            rcases hq7 b hb with e | e
            · exact Or.inl e
            · right; have := hF6.size; omega

end Go.Proofs.Ytfaeboamjfdjlaa
