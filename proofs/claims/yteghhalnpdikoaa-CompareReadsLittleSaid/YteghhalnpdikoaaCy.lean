/-
  The walk through two trees in the order of their keys.
-/
import Derived.Test.YteghhalnpdikoaaCx
set_option linter.unusedVariables false
namespace Go.Proofs.Yteghhalnpdikoaa
open Go.Vc

def TopIs (P : List Itm) (i s k v : Int) (b m : Bool) : Prop :=
  (P = [] ∧ m = false) ∨ (∃ P' t, P = P' ++ [.tr t] ∧ m = true ∧ b = false ∧ i = (t.root : Int) ∧ s = (t.sz : Int)) ∨ (∃ P' e, P = P' ++ [.one e] ∧ m = true ∧ b = true ∧ k = e.1 ∧ v = e.2)

theorem t_topU (w : World) (lo b : Nat) (v : Value) (P : List Itm) (h : SdAt w lo b v P) (hl : P.length ≤ 10000) :
    Calls Try.prog 90 [ptr b].toArray w (Ret fun r w' => ∃ i s k u z m, r = .tuple #[.agg ⟨[.int .u32 i, .int .i64 s, .int .i64 k, .int .i64 u, .bool z]⟩, .bool m] ∧ TopIs P i s k u z m ∧ Ext w w') := by
  rcases List.eq_nil_or_concat P with rfl | ⟨P', x, rfl⟩
  · refine (t_top0 w lo b v h).mono ?_
    rintro _ w' ⟨_, rfl, rfl, hx⟩
    exact ⟨_, rfl, _, _, _, _, _, _, rfl, Or.inl ⟨rfl, rfl⟩, hx⟩
  · rw [List.concat_eq_append] at *
    refine (t_top w lo b v P' x h (by simp at hl; omega)).mono ?_
    rintro _ w' ⟨_, rfl, rfl, hx⟩
    cases x with
    | tr t => exact ⟨_, rfl, _, _, _, _, _, _, rfl, Or.inr (Or.inl ⟨P', t, rfl, rfl, rfl, rfl, rfl⟩), hx⟩
    | one e => exact ⟨_, rfl, _, _, _, _, _, _, rfl, Or.inr (Or.inr ⟨P', e, rfl, rfl, rfl, rfl, rfl⟩), hx⟩

/-- Both stacks, the arena, and the cell of the visitor. -/
structure PrI (w : World) (lo p : Nat) (q : AP) (A : AR) (bl br c : Nat) (T : TypeId) (gv : Value) (P R : List Itm) (vl vr : Value) (B : AR) (w' : World) : Prop where
  l : SdAt w' w.heap.size bl vl P
  r : SdAt w' w.heap.size br vr R
  dis : ∀ x, vl.ownBlock = some x → vr.ownBlock ≠ some x
  ar : ArP w' lo p q B
  rd : ∃ n, Rds A B n
  ca : At w' c [gv] T
  okP : ∀ x ∈ P, x.ok A
  okR : ∀ x ∈ R, x.ok A
  fr : Fr (fun x => x = p ∨ x = c) w w'
  lq : ∀ x, q.fp x → x < w.heap.size
  lc : c < w.heap.size
  bne : w.heap.size ≤ bl ∧ w.heap.size ≤ br ∧ bl ≠ br
  cq : ¬ q.fp c

section
variable {w w' w'' : World} {lo p bl br c : Nat} {q : AP} {A B B' : AR} {T : TypeId} {gv u : Value} {P R P' R' : List Itm} {vl vr vl' vr' : Value}

theorem PrI.hp (h : PrI w lo p q A bl br c T gv P R vl vr B w') : p < w.heap.size := h.lq p h.ar.fpp
theorem PrI.hdl (h : PrI w lo p q A bl br c T gv P R vl vr B w') : ∀ x, (x = bl ∨ vl.ownBlock = some x) → ¬ q.fp x := fun x hx hq => by
  have h1 := h.lq x hq
  rcases hx with e | e
  · have := h.bne.1; omega
  · have := (h.l.lo e).1; omega
theorem PrI.hdr (h : PrI w lo p q A bl br c T gv P R vl vr B w') : ∀ x, (x = br ∨ vr.ownBlock = some x) → ¬ q.fp x := fun x hx hq => by
  have h1 := h.lq x hq
  rcases hx with e | e
  · have := h.bne.2.1; omega
  · have := (h.r.lo e).1; omega

theorem PrI.ext (h : PrI w lo p q A bl br c T gv P R vl vr B w') (f : Ext w' w'') : PrI w lo p q A bl br c T gv P R vl vr B w'' :=
  ⟨h.l.ext f, h.r.ext f, h.dis, h.ar.ext f, h.rd, h.ca.ext f, h.okP, h.okR, h.fr.trans (f.mono fun _ e => e.elim), h.lq, h.lc, h.bne, h.cq⟩

theorem PrI.vis (h : PrI w lo p q A bl br c T gv P R vl vr B w') (f : Fr (fun x => x = c) w' w'') (hc : At w'' c [u] T) : PrI w lo p q A bl br c T u P R vl vr B w'' := by
  have h1 := h.lc
  have h2 := h.bne
  refine ⟨h.l.fr f (by omega) (fun x hx e => by have := (h.l.lo hx).1; omega), h.r.fr f (by omega) (fun x hx e => by have := (h.r.lo hx).1; omega), h.dis, h.ar.fr f (fun x hx e => h.cq (e ▸ hx)), h.rd, hc, h.okP, h.okR, h.fr.trans (f.mono fun x e => Or.inr e), h.lq, h.lc, h.bne, h.cq⟩

theorem PrI.frN {x : Nat} (h : PrI w lo p q A bl br c T gv P R vl vr B w') (f : Fr (fun y => y = x) w' w'') (hl : bl ≠ x) (hr : br ≠ x) (hvl : ∀ y, vl.ownBlock = some y → y ≠ x) (hvr : ∀ y, vr.ownBlock = some y → y ≠ x) (hx : w.heap.size ≤ x) : PrI w lo p q A bl br c T gv P R vl vr B w'' :=
  ⟨h.l.fr f hl hvl, h.r.fr f hr hvr, h.dis, h.ar.fr f (fun b hb e => by have := h.lq b hb; omega), h.rd, h.ca.fr f (by have := h.lc; omega), h.okP, h.okR, h.fr.trans' f (fun b hb e => by omega), h.lq, h.lc, h.bne, h.cq⟩

theorem PrI.stepL (h : PrI w lo p q A bl br c T gv P R vl vr B w') (h1 : SdAt w'' w.heap.size bl vl' P') (ha : ArP w'' lo p q B') (hB : ∃ n, Rds B B' n) (hv : ∀ x, vl'.ownBlock = some x → vl.ownBlock = some x ∨ w'.heap.size ≤ x) (f : Fr (fun x => x = bl ∨ x = p ∨ vl.ownBlock = some x) w' w'') (hok : ∀ x ∈ P', x.ok A) : PrI w lo p q A bl br c T gv P' R vl' vr B' w'' := by
  have hp := h.hp
  have hb := h.bne
  have hc := h.lc
  refine ⟨h1, h.r.fr f ?_ ?_, ?_, ha, ?_, h.ca.fr f ?_, hok, h.okR, h.fr.trans' f ?_, h.lq, h.lc, h.bne, h.cq⟩
  · rintro (e | e | e)
    · omega
    · omega
    · exact h.l.own.nec h.r.at' (by decide) e
  · rintro x hx (e | e | e)
    · exact h.r.own.nec h.l.at' (by decide) (e ▸ hx)
    · have := (h.r.lo hx).1; omega
    · exact h.dis x e hx
  · intro x hx e
    rcases hv x hx with e' | e'
    · exact h.dis x e' e
    · have := (h.r.lo e).2; omega
  · obtain ⟨n, hn⟩ := h.rd
    obtain ⟨m, hm⟩ := hB
    exact ⟨_, hn.trans hm⟩
  · rintro (e | e | e)
    · omega
    · exact h.cq (e ▸ h.ar.fpp)
    · have := (h.l.lo e).1; omega
  · intro x hx e
    rcases e with e | e | e
    · omega
    · exact Or.inl e
    · have := (h.l.lo e).1; omega

theorem PrI.swap (h : PrI w lo p q A bl br c T gv P R vl vr B w') : PrI w lo p q A br bl c T gv R P vr vl B w' :=
  ⟨h.r, h.l, fun x hx e => h.dis x e hx, h.ar, h.rd, h.ca, h.okR, h.okP, h.fr, h.lq, h.lc, ⟨h.bne.2.1, h.bne.1, fun e => h.bne.2.2 e.symm⟩, h.cq⟩
theorem PrI.stepR (h : PrI w lo p q A bl br c T gv P R vl vr B w') (h1 : SdAt w'' w.heap.size br vr' R') (ha : ArP w'' lo p q B') (hB : ∃ n, Rds B B' n) (hv : ∀ x, vr'.ownBlock = some x → vr.ownBlock = some x ∨ w'.heap.size ≤ x) (f : Fr (fun x => x = br ∨ x = p ∨ vr.ownBlock = some x) w' w'') (hok : ∀ x ∈ R', x.ok A) : PrI w lo p q A bl br c T gv P R' vl vr' B' w'' :=
  (h.swap.stepL h1 ha hB hv f hok).swap
theorem PrI.popL {x : Itm} (h : PrI w lo p q A bl br c T gv (P' ++ [x]) R vl vr B w') (h1 : SdAt w'' w.heap.size bl vl' P') (hv : ∀ x, vl'.ownBlock = some x → vl.ownBlock = some x) (f : Fr (fun x => x = bl) w' w'') : PrI w lo p q A bl br c T gv P' R vl' vr B w'' :=
  h.stepL h1 (h.ar.fr f fun x hx e => h.hdl x (Or.inl e) hx) ⟨0, Rds.refl _ _⟩ (fun x hx => Or.inl (hv x hx)) (f.mono fun x e => Or.inl e) (fun x hx => h.okP x (by simp [hx]))
theorem PrI.popR {x : Itm} (h : PrI w lo p q A bl br c T gv P (R' ++ [x]) vl vr B w') (h1 : SdAt w'' w.heap.size br vr' R') (hv : ∀ x, vr'.ownBlock = some x → vr.ownBlock = some x) (f : Fr (fun x => x = br) w' w'') : PrI w lo p q A bl br c T gv P R' vl vr' B w'' :=
  (h.swap.popL h1 hv f).swap
end

theorem den_one {t : Tr} {A : AR} (h : InA A t) : den (psh [] t) = t.ents := by rw [den_psh h, den_nil, List.append_nil]

theorem den_exp {A : AR} {P : List Itm} {i : Nat} {l r : Tr} {k v0 : Int} (h : InA A (.nd i l k v0 r)) : den (psh (psh P r ++ [.one (k, v0)]) l) = den (P ++ [.tr (.nd i l k v0 r)]) := by
  rw [den_psh h.2.2.2.1, den_push, den_psh h.2.2.2.2, den_push]
  show l.ents ++ ([(k, v0)] ++ (r.ents ++ den P)) = (l.ents ++ (k, v0) :: r.ents) ++ den P
  simp
theorem wgt_exp {A : AR} {P : List Itm} {i : Nat} {l r : Tr} {k v0 : Int} (h : InA A (.nd i l k v0 r)) : wgt (psh (psh P r ++ [.one (k, v0)]) l) + 2 = wgt (P ++ [.tr (.nd i l k v0 r)]) := by
  rw [wgt_psh h.2.2.2.1, wgt_push, wgt_psh h.2.2.2.2, wgt_push]
  show wgt P + 3 * r.sz + 1 + 3 * l.sz + 2 = wgt P + 3 * (l.sz + 1 + r.sz)
  omega
theorem ok_exp {A : AR} {P : List Itm} {i : Nat} {l r : Tr} {k v0 : Int} (h : InA A (.nd i l k v0 r)) (hP : ∀ x ∈ P, x.ok A) : ∀ x ∈ psh (psh P r ++ [.one (k, v0)]) l, x.ok A := by
  refine ok_psh h.2.2.2.1 fun x hx => ?_
  rcases List.mem_append.1 hx with hx | hx
  · exact ok_psh h.2.2.2.2 hP x hx
  · simp at hx; subst hx; trivial

set_option maxHeartbeats 4000000 in
theorem c_Pairs (w : World) (lo p : Nat) (q : AP) (A : AR) (t u : Tr) (fc fv : FuncId) (cc cv : List Value) (c : Nat) (T : TypeId) (g0 res : Value) (J : List (Int × Int) → List (Int × Int) → Prop) [Enters Try.prog fc] [Enters Try.prog fv]
    (ha : ArP w lo p q A) (ht : InA A t) (hu : InA A u) (hts : t.sz ≤ 1000) (hus : u.sz ≤ 1000) (hc : At w c [g0] T) (hcq : ¬ q.fp c) (hJ : J t.ents u.ents)
    (hcom : ∀ w' L M S, S ≠ [] → J (S ++ L) (S ++ M) → At w' c [g0] T → Calls Try.prog fc cc.toArray w' (Ret fun r w'' => ∃ b v, r = .bool b ∧ Fr (fun x => x = c) w' w'' ∧ At w'' c [v] T ∧ (b = true → v = g0 ∧ J L M) ∧ (b = false → v = res)))
    (hvis : ∀ w' L M, (L ≠ [] ∨ M ≠ []) → J L M → At w' c [g0] T → Calls Try.prog fv ([Value.agg ⟨pairC L M⟩] ++ cv).toArray w' (Ret fun r w'' => ∃ b v, r = .bool b ∧ Fr (fun x => x = c) w' w'' ∧ At w'' c [v] T ∧ (b = true → v = g0 ∧ J (nxt L M) (nxt M L)) ∧ (b = false → v = res)))
    (hend : J [] [] → g0 = res) :
    Calls Try.prog 48 [ptr p, .int .u32 (t.root : Int), .int .u32 (u.root : Int), .func (.func fc) #[] cc.toArray, .func (.func fv) #[] cv.toArray].toArray w (Ret fun r w' => r = .tuple #[] ∧ ∃ B, ArP w' lo p q B ∧ (∃ n, Rds A B n) ∧ At w' c [res] T ∧ Fr (fun x => x = p ∨ x = c) w w') := by
  have hlq := ha.lt
  have hlc := hc.lt
  refine calls_go Try.func48 rfl Try.ntmps48 (Nat.le_of_ble_eq_true rfl) ?_
  repeat (first | refine sp ?_ | (refine is_load ?_; refine ld ?_) | (refine is_store ?_; refine sr ?_) | (refine is_alloc ?_; refine al ?_) | (refine is_box ?_; refine bx ?_) | (refine isl_load ?_; refine ldl ?_) | (refine isl_store ?_; refine srl ?_) | (refine isl_alloc ?_; refine all' ?_) | (refine isl_box ?_; refine bxl ?_))
  refine go_name (F := fun w1 => PrI w lo p q A w.heap.size (w.heap.size + 1) c T g0 [] [] (.slice none 0 0) (.slice none 0 0) A w1) ⟨⟨by (repeat (first | assumption | (refine At.new' (by (first | omega | (simp; done) | (simp; omega))) _ _) | apply At.alloc | apply At.drewN | apply At.setRow | (apply At.setRow_neF; first | assumption | (apply Ne.symm; assumption) | omega) | (apply At.extF; assumption))), Own.nil _ _ _ _⟩, ⟨by (repeat (first | assumption | (refine At.new' (by (first | omega | (simp; done) | (simp; omega))) _ _) | apply At.alloc | apply At.drewN | apply At.setRow | (apply At.setRow_neF; first | assumption | (apply Ne.symm; assumption) | omega) | (apply At.extF; assumption))), Own.nil _ _ _ _⟩, fun x hx => by simp [Value.ownBlock] at hx, ha.ext (by (repeat (first | exact Fr.refl _ _ | assumption | apply Fr.drewN | apply Fr.alloc | (apply Fr.transF; assumption) | (refine Fr.setRow ?_ _ (by first | exact Or.inr (by (first | omega | (simp; done) | (simp; omega))) | (exact Or.inl (by first | assumption | (simp; done)))))))), ⟨0, Rds.refl _ _⟩, hc.ext (by (repeat (first | exact Fr.refl _ _ | assumption | apply Fr.drewN | apply Fr.alloc | (apply Fr.transF; assumption) | (refine Fr.setRow ?_ _ (by first | exact Or.inr (by (first | omega | (simp; done) | (simp; omega))) | (exact Or.inl (by first | assumption | (simp; done)))))))), by simp, by simp, by (repeat (first | exact Fr.refl _ _ | assumption | apply Fr.drewN | apply Fr.alloc | (apply Fr.transF; assumption) | (refine Fr.setRow ?_ _ (by first | exact Or.inr (by (first | omega | (simp; done) | (simp; omega))) | (exact Or.inl (by first | assumption | (simp; done))))))), hlq, hlc, ⟨by omega, by omega, by omega⟩, hcq⟩ ?_
  rintro w1 h1
  refine go_call rfl rfl (t_push w1 w.heap.size lo p w.heap.size q A _ [] t h1.l h1.ar h1.hdl h1.fr.size (by simp) ht (by omega)) ?_
  rintro _ w2 ⟨rfl, v2, A2, l2, a2, r2, v2', f2⟩
  have h2 := h1.stepL l2 a2 ⟨_, r2⟩ v2' f2 (ok_psh ht (by simp))
  clear l2 a2 v2' f2 h1
  repeat (first | refine sp ?_ | (refine is_load ?_; refine ld ?_) | (refine is_store ?_; refine sr ?_) | (refine is_alloc ?_; refine al ?_) | (refine is_box ?_; refine bx ?_) | (refine isl_load ?_; refine ldl ?_) | (refine isl_store ?_; refine srl ?_) | (refine isl_alloc ?_; refine all' ?_) | (refine isl_box ?_; refine bxl ?_))
  refine go_call rfl rfl (t_push w2 w.heap.size lo p (w.heap.size + 1) q A2 _ [] u h2.r h2.ar h2.hdr h2.fr.size (by simp) (r2.inA hu) (by omega)) ?_
  rintro _ w3 ⟨rfl, v3, A3, l3, a3, r3, v3', f3⟩
  have h3 := h2.stepR l3 a3 ⟨_, r3⟩ v3' f3 (ok_psh hu (by simp))
  clear l3 a3 v3' f3 h2 r2 r3
  have hj3 : J (den (psh [] t)) (den (psh [] u)) := by rw [den_one ht, den_one hu]; exact hJ
  have hw3 : wgt (psh [] t) + wgt (psh [] u) ≤ 6000 := by
    rw [wgt_psh ht, wgt_psh hu]
    show 0 + 3 * t.sz + (0 + 3 * u.sz) ≤ 6000
    omega
  repeat (first | refine sp ?_ | (refine is_load ?_; refine ld ?_) | (refine is_store ?_; refine sr ?_) | (refine is_alloc ?_; refine al ?_) | (refine is_box ?_; refine bx ?_) | (refine isl_load ?_; refine ldl ?_) | (refine isl_store ?_; refine srl ?_) | (refine isl_alloc ?_; refine all' ?_) | (refine isl_box ?_; refine bxl ?_))
  refine go_loop (G := List Itm × List Itm × Value × Value × AR) [] (fun _ => []) [(0, ptr p), (3, .func (.func fc) #[] cc.toArray), (4, .func (.func fv) #[] cv.toArray), (10, ptr w.heap.size), (11, ptr (w.heap.size + 1))]
    (fun ⟨P, R, vl, vr, B⟩ w' => PrI w lo p q A w.heap.size (w.heap.size + 1) c T g0 P R vl vr B w' ∧ J (den P) (den R) ∧ wgt P + wgt R ≤ 6000) (fun g => wgt g.1 + wgt g.2.1) (psh [] t, psh [] u, v2, v3, A3) rfl ⟨rfl, rfl, rfl, rfl, rfl, trivial⟩ ⟨h3, hj3, hw3⟩ ?_
  clear h3 hj3 hw3
  rintro ⟨P, R, vl, vr, B⟩ w4 ⟨h4, hj, hw⟩
  have hP := wgt_len h4.okP
  have hR := wgt_len h4.okR
  have hbl := h4.l.at'.lt
  have hbr := h4.r.at'.lt
  repeat (first | refine sp ?_ | (refine is_load ?_; refine ld ?_) | (refine is_store ?_; refine sr ?_) | (refine is_alloc ?_; refine al ?_) | (refine is_box ?_; refine bx ?_) | (refine isl_load ?_; refine ldl ?_) | (refine isl_store ?_; refine srl ?_) | (refine isl_alloc ?_; refine all' ?_) | (refine isl_box ?_; refine bxl ?_))
  refine go_call rfl rfl (t_topU w4 w.heap.size w.heap.size vl P h4.l (by omega)) ?_
  rintro _ w5 ⟨i1, s1, k1, u1, z1, m1, rfl, hT1, hx5⟩
  have hs5 := hx5.size
  repeat (first | refine sp ?_ | (refine is_load ?_; refine ld ?_) | (refine is_store ?_; refine sr ?_) | (refine is_alloc ?_; refine al ?_) | (refine is_box ?_; refine bx ?_) | (refine isl_load ?_; refine ldl ?_) | (refine isl_store ?_; refine srl ?_) | (refine isl_alloc ?_; refine all' ?_) | (refine isl_box ?_; refine bxl ?_))
  refine go_name (F := fun w6 => At w6 w5.heap.size [.int .u32 i1, .int .i64 s1, .int .i64 k1, .int .i64 u1, .bool z1] 141 ∧ Ext w5 w6) ⟨by (repeat (first | assumption | (refine At.new' (by (first | omega | (simp; done) | (simp; omega))) _ _) | apply At.alloc | apply At.drewN | apply At.setRow | (apply At.setRow_neF; first | assumption | (apply Ne.symm; assumption) | omega) | (apply At.extF; assumption))), by (repeat (first | exact Fr.refl _ _ | assumption | apply Fr.drewN | apply Fr.alloc | (apply Fr.transF; assumption) | (refine Fr.setRow ?_ _ (by first | exact Or.inr (by (first | omega | (simp; done) | (simp; omega))) | (exact Or.inl (by first | assumption | (simp; done)))))))⟩ ?_
  rintro w6 ⟨hc6, hx6⟩
  have hs6 := hx6.size
  refine go_call rfl rfl (t_topU w6 w.heap.size (w.heap.size + 1) vr R (h4.r.ext (hx5.trans hx6)) (by omega)) ?_
  rintro _ w7 ⟨i2, s2, k2, u2, z2, m2, rfl, hT2, hx7⟩
  have hc7 := hc6.ext hx7
  have hl7 := hc7.lt
  have hs7 := hx7.size
  have hx47 := (hx5.trans hx6).trans hx7
  repeat (first | refine sp ?_ | (refine is_load ?_; refine ld ?_) | (refine is_store ?_; refine sr ?_) | (refine is_alloc ?_; refine al ?_) | (refine is_box ?_; refine bx ?_) | (refine isl_load ?_; refine ldl ?_) | (refine isl_store ?_; refine srl ?_) | (refine isl_alloc ?_; refine all' ?_) | (refine isl_box ?_; refine bxl ?_))
  refine go_name (F := fun w8 => At w8 w7.heap.size [.int .u32 i2, .int .i64 s2, .int .i64 k2, .int .i64 u2, .bool z2] 141 ∧ At w8 w5.heap.size [.int .u32 i1, .int .i64 s1, .int .i64 k1, .int .i64 u1, .bool z1] 141 ∧ Ext w4 w8) ⟨by (repeat (first | assumption | (refine At.new' (by (first | omega | (simp; done) | (simp; omega))) _ _) | apply At.alloc | apply At.drewN | apply At.setRow | (apply At.setRow_neF; first | assumption | (apply Ne.symm; assumption) | omega) | (apply At.extF; assumption))), by (repeat (first | assumption | (refine At.new' (by (first | omega | (simp; done) | (simp; omega))) _ _) | apply At.alloc | apply At.drewN | apply At.setRow | (apply At.setRow_neF; first | assumption | (apply Ne.symm; assumption) | omega) | (apply At.extF; assumption))), by (repeat (first | exact Fr.refl _ _ | assumption | apply Fr.drewN | apply Fr.alloc | (apply Fr.transF; assumption) | (refine Fr.setRow ?_ _ (by first | exact Or.inr (by (first | omega | (simp; done) | (simp; omega))) | (exact Or.inl (by first | assumption | (simp; done)))))))⟩ ?_
  rintro w8 ⟨hd8, hc8, hx8⟩
  have h8 := h4.ext hx8
  have hb12 : w4.heap.size ≤ w5.heap.size := hs5
  have hb14 : w4.heap.size ≤ w7.heap.size := hx47.size
  clear hc6 hc7 hx5 hx6 hx7 hx47 h4
  generalize w5.heap.size = b12 at *
  generalize w7.heap.size = b14 at *
  have hl8 := hd8.lt
  have hm8 := hc8.lt
  have hn9 : b14 ≠ w8.heap.size := by omega
  have hm9 : b12 ≠ w8.heap.size := by omega
  have hs8 := hx8.size
  rcases hT1 with ⟨rfl, rfl⟩ | ⟨P', t1, rfl, rfl, rfl, rfl, rfl⟩ | ⟨P', e, rfl, rfl, rfl, rfl, rfl⟩
  · rcases hT2 with ⟨rfl, rfl⟩ | ⟨R', t2, rfl, rfl, rfl, rfl, rfl⟩ | ⟨R', f, rfl, rfl, rfl, rfl, rfl⟩
    · repeat (first | refine sp ?_ | (refine is_load ?_; refine ld ?_) | (refine is_store ?_; refine sr ?_) | (refine is_alloc ?_; refine al ?_) | (refine is_box ?_; refine bx ?_) | (refine isl_load ?_; refine ldl ?_) | (refine isl_store ?_; refine srl ?_) | (refine isl_alloc ?_; refine all' ?_) | (refine isl_box ?_; refine bxl ?_))
      have e := hend hj
      subst e
      exact go_ret0 rfl ⟨_, rfl, rfl, B, h8.ar, h8.rd, h8.ca, h8.fr⟩
    · repeat (first | refine sp ?_ | (refine is_load ?_; refine ld ?_) | (refine is_store ?_; refine sr ?_) | (refine is_alloc ?_; refine al ?_) | (refine is_box ?_; refine bx ?_) | (refine isl_load ?_; refine ldl ?_) | (refine isl_store ?_; refine srl ?_) | (refine isl_alloc ?_; refine all' ?_) | (refine isl_box ?_; refine bxl ?_))
      have ok2 := h8.okR (.tr t2) (by simp)
      cases t2 with
      | nil => exact absurd rfl ok2.1
      | nd i l k v0 r =>
        have hsz2 : (Tr.nd i l k v0 r).sz = l.sz + 1 + r.sz := rfl
        have hwx := wgt_exp (P := R') ok2.2
        have hwp := wgt_push R' (.tr (Tr.nd i l k v0 r))
        have hwd : Itm.wgt (.tr (Tr.nd i l k v0 r)) = 3 * (l.sz + 1 + r.sz) := rfl
        have hlr : (R' ++ [Itm.tr (Tr.nd i l k v0 r)]).length = R'.length + 1 := by simp
        obtain ⟨n8, hn8⟩ := h8.rd
        refine go_call rfl rfl (t_expand w8 w.heap.size lo p (w.heap.size + 1) q B vr R' i l k v0 r h8.r h8.ar h8.hdr h8.fr.size (by omega) (hn8.inA ok2.2) (by omega)) ?_
        rintro _ w9 ⟨rfl, v9, B9, l9, a9, r9, v9', f9⟩
        have h9 := h8.stepR l9 a9 r9 v9' f9 (ok_exp ok2.2 fun x hx => h8.okR x (by simp [hx]))
        rw [← den_exp ok2.2] at hj
        repeat (first | refine sp ?_ | (refine is_load ?_; refine ld ?_) | (refine is_store ?_; refine sr ?_) | (refine is_alloc ?_; refine al ?_) | (refine is_box ?_; refine bx ?_) | (refine isl_load ?_; refine ldl ?_) | (refine isl_store ?_; refine srl ?_) | (refine isl_alloc ?_; refine all' ?_) | (refine isl_box ?_; refine bxl ?_))
        exact go_stop (G := List Itm × List Itm × Value × Value × AR) (_, _, vl, v9, B9) rfl ⟨rfl, rfl, rfl, rfl, rfl, trivial⟩ ⟨h9, hj, by omega⟩ (by dsimp only; omega)
    · have hpc : pairC (den []) (den (R' ++ [Itm.one f])) = [.int .i64 f.1, .int .i64 0, .int .i64 f.2, .bool false, .bool true, .bool false, .bool true] := by rw [den_push]; rfl
      have hnx : nxt (den []) (den (R' ++ [Itm.one f])) = den [] := by rw [den_push]; rfl
      have hny : nxt (den (R' ++ [Itm.one f])) (den []) = den R' := by rw [den_push]; rfl
      have hne : den [] ≠ [] ∨ den (R' ++ [Itm.one f]) ≠ [] := Or.inr (by rw [den_push]; simp [Itm.ents])
      have hwr : wgt (R' ++ [Itm.one f]) = wgt R' + 1 := wgt_push _ _
      have hlr : (R' ++ [Itm.one f]).length = R'.length + 1 := by simp
      repeat (first | refine sp ?_ | (refine is_load ?_; refine ld ?_) | (refine is_store ?_; refine sr ?_) | (refine is_alloc ?_; refine al ?_) | (refine is_box ?_; refine bx ?_) | (refine isl_load ?_; refine ldl ?_) | (refine isl_store ?_; refine srl ?_) | (refine isl_alloc ?_; refine all' ?_) | (refine isl_box ?_; refine bxl ?_))
      refine go_name (F := fun w9 => At w9 w8.heap.size [.int .i64 0, .int .i64 0, .int .i64 0, .bool false, .bool true, .bool false, .bool true] 92 ∧ At w9 b14 [.int .u32 i2, .int .i64 s2, .int .i64 f.1, .int .i64 f.2, .bool true] 141 ∧ Ext w8 w9) ⟨by (repeat (first | assumption | (refine At.new' (by (first | omega | (simp; done) | (simp; omega))) _ _) | apply At.alloc | apply At.drewN | apply At.setRow | (apply At.setRow_neF; first | assumption | (apply Ne.symm; assumption) | omega) | (apply At.extF; assumption))), by (repeat (first | assumption | (refine At.new' (by (first | omega | (simp; done) | (simp; omega))) _ _) | apply At.alloc | apply At.drewN | apply At.setRow | (apply At.setRow_neF; first | assumption | (apply Ne.symm; assumption) | omega) | (apply At.extF; assumption))), by (repeat (first | exact Fr.refl _ _ | assumption | apply Fr.drewN | apply Fr.alloc | (apply Fr.transF; assumption) | (refine Fr.setRow ?_ _ (by first | exact Or.inr (by (first | omega | (simp; done) | (simp; omega))) | (exact Or.inl (by first | assumption | (simp; done)))))))⟩ ?_
      rintro w9 ⟨hp9, hd9, hx9⟩
      refine go_drawE (Fr (fun x => x = w8.heap.size) w9) 0 Try.follows (by kernel_rfl) (by kernel_rfl) (by kernel_rfl) ((Fr.refl _ _).drewN 1) ?_
      repeat (first | refine sp ?_ | (refine is_load ?_; refine ld ?_) | (refine is_store ?_; refine sr ?_) | (refine is_alloc ?_; refine al ?_) | (refine is_box ?_; refine bx ?_) | (refine isl_load ?_; refine ldl ?_) | (refine isl_store ?_; refine srl ?_) | (refine isl_alloc ?_; refine all' ?_) | (refine isl_box ?_; refine bxl ?_))
      refine go_name (F := fun w10 => At w10 w8.heap.size [.int .i64 f.1, .int .i64 0, .int .i64 f.2, .bool false, .bool true, .bool false, .bool true] 92 ∧ Ext w8 w10) ⟨by (repeat (first | assumption | (refine At.new' (by (first | omega | (simp; done) | (simp; omega))) _ _) | apply At.alloc | apply At.drewN | apply At.setRow | (apply At.setRow_neF; first | assumption | (apply Ne.symm; assumption) | omega) | (apply At.extF; assumption))), by (repeat (first | exact Fr.refl _ _ | assumption | apply Fr.drewN | apply Fr.alloc | (apply Fr.transF; assumption) | (refine Fr.setRow ?_ _ (by first | exact Or.inr (by (first | omega | (simp; done) | (simp; omega))) | (exact Or.inl (by first | assumption | (simp; done)))))))⟩ ?_
      rintro w10 ⟨hp10, hx10⟩
      have h10 := h8.ext hx10
      refine go_call rfl rfl (t_pop w10 w.heap.size (w.heap.size + 1) vr R' _ h10.r (by omega)) ?_
      rintro _ w12 ⟨rfl, v12, l12, v12', f12⟩
      have h12 := h10.popR l12 v12' f12
      have hp12 := hp10.fr f12 (by omega)
      repeat (first | refine sp ?_ | (refine is_load ?_; refine ld ?_) | (refine is_store ?_; refine sr ?_) | (refine is_alloc ?_; refine al ?_) | (refine is_box ?_; refine bx ?_) | (refine isl_load ?_; refine ldl ?_) | (refine isl_store ?_; refine srl ?_) | (refine isl_alloc ?_; refine all' ?_) | (refine isl_box ?_; refine bxl ?_))
      refine go_as 87 (u' := .agg ⟨pairC (den []) (den (R' ++ [Itm.one f]))⟩) rfl (by rw [hpc]) ?_
      refine go_callv rfl rfl rfl (hvis _ _ _ hne hj h12.ca) ?_
      rintro _ w13 ⟨bb, gv, rfl, f13, hc13, hy, hn⟩
      have h13 := h12.vis f13 hc13
      cases bb with
      | true =>
        obtain ⟨hg, hj'⟩ := hy rfl
        rw [hg] at h13
        rw [hnx, hny] at hj'
        repeat (first | refine sp ?_ | (refine is_load ?_; refine ld ?_) | (refine is_store ?_; refine sr ?_) | (refine is_alloc ?_; refine al ?_) | (refine is_box ?_; refine bx ?_) | (refine isl_load ?_; refine ldl ?_) | (refine isl_store ?_; refine srl ?_) | (refine isl_alloc ?_; refine all' ?_) | (refine isl_box ?_; refine bxl ?_))
        exact go_stop (G := List Itm × List Itm × Value × Value × AR) (_, _, _, _, B) rfl ⟨rfl, rfl, rfl, rfl, rfl, trivial⟩ ⟨h13, hj', by omega⟩ (by dsimp only; omega)
      | false =>
        rw [hn rfl] at h13
        repeat (first | refine sp ?_ | (refine is_load ?_; refine ld ?_) | (refine is_store ?_; refine sr ?_) | (refine is_alloc ?_; refine al ?_) | (refine is_box ?_; refine bx ?_) | (refine isl_load ?_; refine ldl ?_) | (refine isl_store ?_; refine srl ?_) | (refine isl_alloc ?_; refine all' ?_) | (refine isl_box ?_; refine bxl ?_))
        exact go_ret0 rfl ⟨_, rfl, rfl, B, h13.ar, h13.rd, h13.ca, h13.fr⟩
  · rcases hT2 with ⟨rfl, rfl⟩ | ⟨R', t2, rfl, rfl, rfl, rfl, rfl⟩ | ⟨R', f, rfl, rfl, rfl, rfl, rfl⟩
    · repeat (first | refine sp ?_ | (refine is_load ?_; refine ld ?_) | (refine is_store ?_; refine sr ?_) | (refine is_alloc ?_; refine al ?_) | (refine is_box ?_; refine bx ?_) | (refine isl_load ?_; refine ldl ?_) | (refine isl_store ?_; refine srl ?_) | (refine isl_alloc ?_; refine all' ?_) | (refine isl_box ?_; refine bxl ?_))
      have ok1 := h8.okP (.tr t1) (by simp)
      cases t1 with
      | nil => exact absurd rfl ok1.1
      | nd i l k v0 r =>
        have hsz1 : (Tr.nd i l k v0 r).sz = l.sz + 1 + r.sz := rfl
        have hwx := wgt_exp (P := P') ok1.2
        have hwp := wgt_push P' (.tr (Tr.nd i l k v0 r))
        have hwd : Itm.wgt (.tr (Tr.nd i l k v0 r)) = 3 * (l.sz + 1 + r.sz) := rfl
        have hlr : (P' ++ [Itm.tr (Tr.nd i l k v0 r)]).length = P'.length + 1 := by simp
        obtain ⟨n8, hn8⟩ := h8.rd
        refine go_call rfl rfl (t_expand w8 w.heap.size lo p w.heap.size q B vl P' i l k v0 r h8.l h8.ar h8.hdl h8.fr.size (by omega) (hn8.inA ok1.2) (by omega)) ?_
        rintro _ w9 ⟨rfl, v9, B9, l9, a9, r9, v9', f9⟩
        have h9 := h8.stepL l9 a9 r9 v9' f9 (ok_exp ok1.2 fun x hx => h8.okP x (by simp [hx]))
        rw [← den_exp ok1.2] at hj
        repeat (first | refine sp ?_ | (refine is_load ?_; refine ld ?_) | (refine is_store ?_; refine sr ?_) | (refine is_alloc ?_; refine al ?_) | (refine is_box ?_; refine bx ?_) | (refine isl_load ?_; refine ldl ?_) | (refine isl_store ?_; refine srl ?_) | (refine isl_alloc ?_; refine all' ?_) | (refine isl_box ?_; refine bxl ?_))
        exact go_stop (G := List Itm × List Itm × Value × Value × AR) (_, _, v9, vr, B9) rfl ⟨rfl, rfl, rfl, rfl, rfl, trivial⟩ ⟨h9, hj, by omega⟩ (by dsimp only; omega)
    · by_cases hrt : t1.root = t2.root
      · have ht12 : t1 = t2 := InA.uniq (h8.okP (.tr t1) (by simp)).2 (h8.okR (.tr t2) (by simp)).2 hrt
        subst ht12
        have hwl : wgt (P' ++ [Itm.tr t1]) = wgt P' + 3 * t1.sz := wgt_push _ _
        have hwr : wgt (R' ++ [Itm.tr t1]) = wgt R' + 3 * t1.sz := wgt_push _ _
        have hll : (P' ++ [Itm.tr t1]).length = P'.length + 1 := by simp
        have hlr : (R' ++ [Itm.tr t1]).length = R'.length + 1 := by simp
        have hpos := Tr.sz_pos (h8.okP (.tr t1) (by simp)).1
        have hne : t1.ents ≠ [] := fun e => by have := t1.len; rw [e] at this; simp at this; omega
        rw [den_push, den_push] at hj
        repeat (first | refine sp ?_ | (refine is_load ?_; refine ld ?_) | (refine is_store ?_; refine sr ?_) | (refine is_alloc ?_; refine al ?_) | (refine is_box ?_; refine bx ?_) | (refine isl_load ?_; refine ldl ?_) | (refine isl_store ?_; refine srl ?_) | (refine isl_alloc ?_; refine all' ?_) | (refine isl_box ?_; refine bxl ?_))
        refine go_call rfl rfl (t_pop w8 w.heap.size w.heap.size vl P' _ h8.l (by omega)) ?_
        rintro _ w9 ⟨rfl, v9, l9, v9', f9⟩
        have h9 := h8.popL l9 v9' f9
        repeat (first | refine sp ?_ | (refine is_load ?_; refine ld ?_) | (refine is_store ?_; refine sr ?_) | (refine is_alloc ?_; refine al ?_) | (refine is_box ?_; refine bx ?_) | (refine isl_load ?_; refine ldl ?_) | (refine isl_store ?_; refine srl ?_) | (refine isl_alloc ?_; refine all' ?_) | (refine isl_box ?_; refine bxl ?_))
        refine go_call rfl rfl (t_pop w9 w.heap.size (w.heap.size + 1) vr R' _ h9.r (by omega)) ?_
        rintro _ w10 ⟨rfl, v10, l10, v10', f10⟩
        have h10 := h9.popR l10 v10' f10
        repeat (first | refine sp ?_ | (refine is_load ?_; refine ld ?_) | (refine is_store ?_; refine sr ?_) | (refine is_alloc ?_; refine al ?_) | (refine is_box ?_; refine bx ?_) | (refine isl_load ?_; refine ldl ?_) | (refine isl_store ?_; refine srl ?_) | (refine isl_alloc ?_; refine all' ?_) | (refine isl_box ?_; refine bxl ?_))
        refine go_callv rfl rfl rfl (hcom _ _ _ t1.ents hne hj h10.ca) ?_
        rintro _ w13 ⟨bb, gv, rfl, f13, hc13, hy, hn⟩
        have h13 := h10.vis f13 hc13
        cases bb with
        | true =>
          obtain ⟨hg, hj'⟩ := hy rfl
          rw [hg] at h13
          repeat (first | refine sp ?_ | (refine is_load ?_; refine ld ?_) | (refine is_store ?_; refine sr ?_) | (refine is_alloc ?_; refine al ?_) | (refine is_box ?_; refine bx ?_) | (refine isl_load ?_; refine ldl ?_) | (refine isl_store ?_; refine srl ?_) | (refine isl_alloc ?_; refine all' ?_) | (refine isl_box ?_; refine bxl ?_))
          exact go_stop (G := List Itm × List Itm × Value × Value × AR) (_, _, _, _, B) rfl ⟨rfl, rfl, rfl, rfl, rfl, trivial⟩ ⟨h13, hj', by omega⟩ (by dsimp only; omega)
        | false =>
          rw [hn rfl] at h13
          repeat (first | refine sp ?_ | (refine is_load ?_; refine ld ?_) | (refine is_store ?_; refine sr ?_) | (refine is_alloc ?_; refine al ?_) | (refine is_box ?_; refine bx ?_) | (refine isl_load ?_; refine ldl ?_) | (refine isl_store ?_; refine srl ?_) | (refine isl_alloc ?_; refine all' ?_) | (refine isl_box ?_; refine bxl ?_))
          exact go_ret0 rfl ⟨_, rfl, rfl, B, h13.ar, h13.rd, h13.ca, h13.fr⟩
      · by_cases hss : t2.sz ≤ t1.sz
        · repeat (first | refine sp ?_ | (refine is_load ?_; refine ld ?_) | (refine is_store ?_; refine sr ?_) | (refine is_alloc ?_; refine al ?_) | (refine is_box ?_; refine bx ?_) | (refine isl_load ?_; refine ldl ?_) | (refine isl_store ?_; refine srl ?_) | (refine isl_alloc ?_; refine all' ?_) | (refine isl_box ?_; refine bxl ?_))
          have ok1 := h8.okP (.tr t1) (by simp)
          cases t1 with
          | nil => exact absurd rfl ok1.1
          | nd i l k v0 r =>
            have hsz1 : (Tr.nd i l k v0 r).sz = l.sz + 1 + r.sz := rfl
            have hwx := wgt_exp (P := P') ok1.2
            have hwp := wgt_push P' (.tr (Tr.nd i l k v0 r))
            have hwd : Itm.wgt (.tr (Tr.nd i l k v0 r)) = 3 * (l.sz + 1 + r.sz) := rfl
            have hlr : (P' ++ [Itm.tr (Tr.nd i l k v0 r)]).length = P'.length + 1 := by simp
            obtain ⟨n8, hn8⟩ := h8.rd
            refine go_call rfl rfl (t_expand w8 w.heap.size lo p w.heap.size q B vl P' i l k v0 r h8.l h8.ar h8.hdl h8.fr.size (by omega) (hn8.inA ok1.2) (by omega)) ?_
            rintro _ w9 ⟨rfl, v9, B9, l9, a9, r9, v9', f9⟩
            have h9 := h8.stepL l9 a9 r9 v9' f9 (ok_exp ok1.2 fun x hx => h8.okP x (by simp [hx]))
            rw [← den_exp ok1.2] at hj
            repeat (first | refine sp ?_ | (refine is_load ?_; refine ld ?_) | (refine is_store ?_; refine sr ?_) | (refine is_alloc ?_; refine al ?_) | (refine is_box ?_; refine bx ?_) | (refine isl_load ?_; refine ldl ?_) | (refine isl_store ?_; refine srl ?_) | (refine isl_alloc ?_; refine all' ?_) | (refine isl_box ?_; refine bxl ?_))
            exact go_stop (G := List Itm × List Itm × Value × Value × AR) (_, _, v9, vr, B9) rfl ⟨rfl, rfl, rfl, rfl, rfl, trivial⟩ ⟨h9, hj, by omega⟩ (by dsimp only; omega)
        · repeat (first | refine sp ?_ | (refine is_load ?_; refine ld ?_) | (refine is_store ?_; refine sr ?_) | (refine is_alloc ?_; refine al ?_) | (refine is_box ?_; refine bx ?_) | (refine isl_load ?_; refine ldl ?_) | (refine isl_store ?_; refine srl ?_) | (refine isl_alloc ?_; refine all' ?_) | (refine isl_box ?_; refine bxl ?_))
          have ok2 := h8.okR (.tr t2) (by simp)
          cases t2 with
          | nil => exact absurd rfl ok2.1
          | nd i l k v0 r =>
            have hsz2 : (Tr.nd i l k v0 r).sz = l.sz + 1 + r.sz := rfl
            have hwx := wgt_exp (P := R') ok2.2
            have hwp := wgt_push R' (.tr (Tr.nd i l k v0 r))
            have hwd : Itm.wgt (.tr (Tr.nd i l k v0 r)) = 3 * (l.sz + 1 + r.sz) := rfl
            have hlr : (R' ++ [Itm.tr (Tr.nd i l k v0 r)]).length = R'.length + 1 := by simp
            obtain ⟨n8, hn8⟩ := h8.rd
            refine go_call rfl rfl (t_expand w8 w.heap.size lo p (w.heap.size + 1) q B vr R' i l k v0 r h8.r h8.ar h8.hdr h8.fr.size (by omega) (hn8.inA ok2.2) (by omega)) ?_
            rintro _ w9 ⟨rfl, v9, B9, l9, a9, r9, v9', f9⟩
            have h9 := h8.stepR l9 a9 r9 v9' f9 (ok_exp ok2.2 fun x hx => h8.okR x (by simp [hx]))
            rw [← den_exp ok2.2] at hj
            repeat (first | refine sp ?_ | (refine is_load ?_; refine ld ?_) | (refine is_store ?_; refine sr ?_) | (refine is_alloc ?_; refine al ?_) | (refine is_box ?_; refine bx ?_) | (refine isl_load ?_; refine ldl ?_) | (refine isl_store ?_; refine srl ?_) | (refine isl_alloc ?_; refine all' ?_) | (refine isl_box ?_; refine bxl ?_))
            exact go_stop (G := List Itm × List Itm × Value × Value × AR) (_, _, vl, v9, B9) rfl ⟨rfl, rfl, rfl, rfl, rfl, trivial⟩ ⟨h9, hj, by omega⟩ (by dsimp only; omega)
    · repeat (first | refine sp ?_ | (refine is_load ?_; refine ld ?_) | (refine is_store ?_; refine sr ?_) | (refine is_alloc ?_; refine al ?_) | (refine is_box ?_; refine bx ?_) | (refine isl_load ?_; refine ldl ?_) | (refine isl_store ?_; refine srl ?_) | (refine isl_alloc ?_; refine all' ?_) | (refine isl_box ?_; refine bxl ?_))
      have ok1 := h8.okP (.tr t1) (by simp)
      cases t1 with
      | nil => exact absurd rfl ok1.1
      | nd i l k v0 r =>
        have hsz1 : (Tr.nd i l k v0 r).sz = l.sz + 1 + r.sz := rfl
        have hwx := wgt_exp (P := P') ok1.2
        have hwp := wgt_push P' (.tr (Tr.nd i l k v0 r))
        have hwd : Itm.wgt (.tr (Tr.nd i l k v0 r)) = 3 * (l.sz + 1 + r.sz) := rfl
        have hlr : (P' ++ [Itm.tr (Tr.nd i l k v0 r)]).length = P'.length + 1 := by simp
        obtain ⟨n8, hn8⟩ := h8.rd
        refine go_call rfl rfl (t_expand w8 w.heap.size lo p w.heap.size q B vl P' i l k v0 r h8.l h8.ar h8.hdl h8.fr.size (by omega) (hn8.inA ok1.2) (by omega)) ?_
        rintro _ w9 ⟨rfl, v9, B9, l9, a9, r9, v9', f9⟩
        have h9 := h8.stepL l9 a9 r9 v9' f9 (ok_exp ok1.2 fun x hx => h8.okP x (by simp [hx]))
        rw [← den_exp ok1.2] at hj
        repeat (first | refine sp ?_ | (refine is_load ?_; refine ld ?_) | (refine is_store ?_; refine sr ?_) | (refine is_alloc ?_; refine al ?_) | (refine is_box ?_; refine bx ?_) | (refine isl_load ?_; refine ldl ?_) | (refine isl_store ?_; refine srl ?_) | (refine isl_alloc ?_; refine all' ?_) | (refine isl_box ?_; refine bxl ?_))
        exact go_stop (G := List Itm × List Itm × Value × Value × AR) (_, _, v9, vr, B9) rfl ⟨rfl, rfl, rfl, rfl, rfl, trivial⟩ ⟨h9, hj, by omega⟩ (by dsimp only; omega)
  · rcases hT2 with ⟨rfl, rfl⟩ | ⟨R', t2, rfl, rfl, rfl, rfl, rfl⟩ | ⟨R', f, rfl, rfl, rfl, rfl, rfl⟩
    · have hpc : pairC (den (P' ++ [Itm.one e])) (den []) = [.int .i64 e.1, .int .i64 e.2, .int .i64 0, .bool true, .bool false, .bool true, .bool false] := by rw [den_push]; rfl
      have hnx : nxt (den (P' ++ [Itm.one e])) (den []) = den P' := by rw [den_push]; rfl
      have hny : nxt (den []) (den (P' ++ [Itm.one e])) = den [] := by rw [den_push]; rfl
      have hne : den (P' ++ [Itm.one e]) ≠ [] ∨ den [] ≠ [] := Or.inl (by rw [den_push]; simp [Itm.ents])
      have hwr : wgt (P' ++ [Itm.one e]) = wgt P' + 1 := wgt_push _ _
      have hlr : (P' ++ [Itm.one e]).length = P'.length + 1 := by simp
      repeat (first | refine sp ?_ | (refine is_load ?_; refine ld ?_) | (refine is_store ?_; refine sr ?_) | (refine is_alloc ?_; refine al ?_) | (refine is_box ?_; refine bx ?_) | (refine isl_load ?_; refine ldl ?_) | (refine isl_store ?_; refine srl ?_) | (refine isl_alloc ?_; refine all' ?_) | (refine isl_box ?_; refine bxl ?_))
      refine go_name (F := fun w9 => At w9 w8.heap.size [.int .i64 0, .int .i64 0, .int .i64 0, .bool true, .bool false, .bool true, .bool false] 92 ∧ At w9 b12 [.int .u32 i1, .int .i64 s1, .int .i64 e.1, .int .i64 e.2, .bool true] 141 ∧ Ext w8 w9) ⟨by (repeat (first | assumption | (refine At.new' (by (first | omega | (simp; done) | (simp; omega))) _ _) | apply At.alloc | apply At.drewN | apply At.setRow | (apply At.setRow_neF; first | assumption | (apply Ne.symm; assumption) | omega) | (apply At.extF; assumption))), by (repeat (first | assumption | (refine At.new' (by (first | omega | (simp; done) | (simp; omega))) _ _) | apply At.alloc | apply At.drewN | apply At.setRow | (apply At.setRow_neF; first | assumption | (apply Ne.symm; assumption) | omega) | (apply At.extF; assumption))), by (repeat (first | exact Fr.refl _ _ | assumption | apply Fr.drewN | apply Fr.alloc | (apply Fr.transF; assumption) | (refine Fr.setRow ?_ _ (by first | exact Or.inr (by (first | omega | (simp; done) | (simp; omega))) | (exact Or.inl (by first | assumption | (simp; done)))))))⟩ ?_
      rintro w9 ⟨hp9, hd9, hx9⟩
      refine go_drawE (Fr (fun x => x = w8.heap.size) w9) 0 Try.follows (by kernel_rfl) (by kernel_rfl) (by kernel_rfl) ((Fr.refl _ _).drewN 1) ?_
      repeat (first | refine sp ?_ | (refine is_load ?_; refine ld ?_) | (refine is_store ?_; refine sr ?_) | (refine is_alloc ?_; refine al ?_) | (refine is_box ?_; refine bx ?_) | (refine isl_load ?_; refine ldl ?_) | (refine isl_store ?_; refine srl ?_) | (refine isl_alloc ?_; refine all' ?_) | (refine isl_box ?_; refine bxl ?_))
      refine go_name (F := fun w10 => At w10 w8.heap.size [.int .i64 e.1, .int .i64 e.2, .int .i64 0, .bool true, .bool false, .bool true, .bool false] 92 ∧ Ext w8 w10) ⟨by (repeat (first | assumption | (refine At.new' (by (first | omega | (simp; done) | (simp; omega))) _ _) | apply At.alloc | apply At.drewN | apply At.setRow | (apply At.setRow_neF; first | assumption | (apply Ne.symm; assumption) | omega) | (apply At.extF; assumption))), by (repeat (first | exact Fr.refl _ _ | assumption | apply Fr.drewN | apply Fr.alloc | (apply Fr.transF; assumption) | (refine Fr.setRow ?_ _ (by first | exact Or.inr (by (first | omega | (simp; done) | (simp; omega))) | (exact Or.inl (by first | assumption | (simp; done)))))))⟩ ?_
      rintro w10 ⟨hp10, hx10⟩
      have h10 := h8.ext hx10
      refine go_call rfl rfl (t_pop w10 w.heap.size w.heap.size vl P' _ h10.l (by omega)) ?_
      rintro _ w12 ⟨rfl, v12, l12, v12', f12⟩
      have h12 := h10.popL l12 v12' f12
      have hp12 := hp10.fr f12 (by omega)
      repeat (first | refine sp ?_ | (refine is_load ?_; refine ld ?_) | (refine is_store ?_; refine sr ?_) | (refine is_alloc ?_; refine al ?_) | (refine is_box ?_; refine bx ?_) | (refine isl_load ?_; refine ldl ?_) | (refine isl_store ?_; refine srl ?_) | (refine isl_alloc ?_; refine all' ?_) | (refine isl_box ?_; refine bxl ?_))
      refine go_as 87 (u' := .agg ⟨pairC (den (P' ++ [Itm.one e])) (den [])⟩) rfl (by rw [hpc]) ?_
      refine go_callv rfl rfl rfl (hvis _ _ _ hne hj h12.ca) ?_
      rintro _ w13 ⟨bb, gv, rfl, f13, hc13, hy, hn⟩
      have h13 := h12.vis f13 hc13
      cases bb with
      | true =>
        obtain ⟨hg, hj'⟩ := hy rfl
        rw [hg] at h13
        rw [hnx, hny] at hj'
        repeat (first | refine sp ?_ | (refine is_load ?_; refine ld ?_) | (refine is_store ?_; refine sr ?_) | (refine is_alloc ?_; refine al ?_) | (refine is_box ?_; refine bx ?_) | (refine isl_load ?_; refine ldl ?_) | (refine isl_store ?_; refine srl ?_) | (refine isl_alloc ?_; refine all' ?_) | (refine isl_box ?_; refine bxl ?_))
        exact go_stop (G := List Itm × List Itm × Value × Value × AR) (_, _, _, _, B) rfl ⟨rfl, rfl, rfl, rfl, rfl, trivial⟩ ⟨h13, hj', by omega⟩ (by dsimp only; omega)
      | false =>
        rw [hn rfl] at h13
        repeat (first | refine sp ?_ | (refine is_load ?_; refine ld ?_) | (refine is_store ?_; refine sr ?_) | (refine is_alloc ?_; refine al ?_) | (refine is_box ?_; refine bx ?_) | (refine isl_load ?_; refine ldl ?_) | (refine isl_store ?_; refine srl ?_) | (refine isl_alloc ?_; refine all' ?_) | (refine isl_box ?_; refine bxl ?_))
        exact go_ret0 rfl ⟨_, rfl, rfl, B, h13.ar, h13.rd, h13.ca, h13.fr⟩
    · repeat (first | refine sp ?_ | (refine is_load ?_; refine ld ?_) | (refine is_store ?_; refine sr ?_) | (refine is_alloc ?_; refine al ?_) | (refine is_box ?_; refine bx ?_) | (refine isl_load ?_; refine ldl ?_) | (refine isl_store ?_; refine srl ?_) | (refine isl_alloc ?_; refine all' ?_) | (refine isl_box ?_; refine bxl ?_))
      have ok2 := h8.okR (.tr t2) (by simp)
      cases t2 with
      | nil => exact absurd rfl ok2.1
      | nd i l k v0 r =>
        have hsz2 : (Tr.nd i l k v0 r).sz = l.sz + 1 + r.sz := rfl
        have hwx := wgt_exp (P := R') ok2.2
        have hwp := wgt_push R' (.tr (Tr.nd i l k v0 r))
        have hwd : Itm.wgt (.tr (Tr.nd i l k v0 r)) = 3 * (l.sz + 1 + r.sz) := rfl
        have hlr : (R' ++ [Itm.tr (Tr.nd i l k v0 r)]).length = R'.length + 1 := by simp
        obtain ⟨n8, hn8⟩ := h8.rd
        refine go_call rfl rfl (t_expand w8 w.heap.size lo p (w.heap.size + 1) q B vr R' i l k v0 r h8.r h8.ar h8.hdr h8.fr.size (by omega) (hn8.inA ok2.2) (by omega)) ?_
        rintro _ w9 ⟨rfl, v9, B9, l9, a9, r9, v9', f9⟩
        have h9 := h8.stepR l9 a9 r9 v9' f9 (ok_exp ok2.2 fun x hx => h8.okR x (by simp [hx]))
        rw [← den_exp ok2.2] at hj
        repeat (first | refine sp ?_ | (refine is_load ?_; refine ld ?_) | (refine is_store ?_; refine sr ?_) | (refine is_alloc ?_; refine al ?_) | (refine is_box ?_; refine bx ?_) | (refine isl_load ?_; refine ldl ?_) | (refine isl_store ?_; refine srl ?_) | (refine isl_alloc ?_; refine all' ?_) | (refine isl_box ?_; refine bxl ?_))
        exact go_stop (G := List Itm × List Itm × Value × Value × AR) (_, _, vl, v9, B9) rfl ⟨rfl, rfl, rfl, rfl, rfl, trivial⟩ ⟨h9, hj, by omega⟩ (by dsimp only; omega)
    · have hwl : wgt (P' ++ [Itm.one e]) = wgt P' + 1 := wgt_push _ _
      have hll : (P' ++ [Itm.one e]).length = P'.length + 1 := by simp
      have hwr : wgt (R' ++ [Itm.one f]) = wgt R' + 1 := wgt_push _ _
      have hlr : (R' ++ [Itm.one f]).length = R'.length + 1 := by simp
      have hne : den (P' ++ [Itm.one e]) ≠ [] ∨ den (R' ++ [Itm.one f]) ≠ [] := Or.inl (by rw [den_push]; simp [Itm.ents])
      have dl : den (P' ++ [Itm.one e]) = e :: den P' := den_push _ _
      have dr' : den (R' ++ [Itm.one f]) = f :: den R' := den_push _ _
      rcases Int.lt_trichotomy e.1 f.1 with hk | hk | hk
      · have b1 : inL (e :: den P') (f :: den R') = true := decide_eq_true (by omega)
        have b2 : inL (f :: den R') (e :: den P') = false := decide_eq_false (by omega)
        have hpc : pairC (den (P' ++ [Itm.one e])) (den (R' ++ [Itm.one f])) = [.int .i64 e.1, .int .i64 e.2, .int .i64 0, .bool true, .bool false, .bool true, .bool true] := by rw [dl, dr']; simp [pairC, pk, pv, b1, b2, hdK, hdV, mor]
        have hnx : nxt (den (P' ++ [Itm.one e])) (den (R' ++ [Itm.one f])) = den P' := by rw [dl, dr']; simp [nxt, b1]
        have hny : nxt (den (R' ++ [Itm.one f])) (den (P' ++ [Itm.one e])) = den (R' ++ [Itm.one f]) := by rw [dl, dr']; simp [nxt, b2]
        repeat (first | refine sp ?_ | (refine is_load ?_; refine ld ?_) | (refine is_store ?_; refine sr ?_) | (refine is_alloc ?_; refine al ?_) | (refine is_box ?_; refine bx ?_) | (refine isl_load ?_; refine ldl ?_) | (refine isl_store ?_; refine srl ?_) | (refine isl_alloc ?_; refine all' ?_) | (refine isl_box ?_; refine bxl ?_))
        refine go_name (F := fun w9 => At w9 w8.heap.size [.int .i64 0, .int .i64 0, .int .i64 0, .bool true, .bool false, .bool true, .bool true] 92 ∧ At w9 b12 [.int .u32 i1, .int .i64 s1, .int .i64 e.1, .int .i64 e.2, .bool true] 141 ∧ Ext w8 w9) ⟨by (repeat (first | assumption | (refine At.new' (by (first | omega | (simp; done) | (simp; omega))) _ _) | apply At.alloc | apply At.drewN | apply At.setRow | (apply At.setRow_neF; first | assumption | (apply Ne.symm; assumption) | omega) | (apply At.extF; assumption))), by (repeat (first | assumption | (refine At.new' (by (first | omega | (simp; done) | (simp; omega))) _ _) | apply At.alloc | apply At.drewN | apply At.setRow | (apply At.setRow_neF; first | assumption | (apply Ne.symm; assumption) | omega) | (apply At.extF; assumption))), by (repeat (first | exact Fr.refl _ _ | assumption | apply Fr.drewN | apply Fr.alloc | (apply Fr.transF; assumption) | (refine Fr.setRow ?_ _ (by first | exact Or.inr (by (first | omega | (simp; done) | (simp; omega))) | (exact Or.inl (by first | assumption | (simp; done)))))))⟩ ?_
        rintro w9 ⟨hp9, hd9, hx9⟩
        refine go_drawE (Fr (fun x => x = w8.heap.size) w9) 0 Try.follows (by kernel_rfl) (by kernel_rfl) (by kernel_rfl) ((Fr.refl _ _).drewN 1) ?_
        repeat (first | refine sp ?_ | (refine is_load ?_; refine ld ?_) | (refine is_store ?_; refine sr ?_) | (refine is_alloc ?_; refine al ?_) | (refine is_box ?_; refine bx ?_) | (refine isl_load ?_; refine ldl ?_) | (refine isl_store ?_; refine srl ?_) | (refine isl_alloc ?_; refine all' ?_) | (refine isl_box ?_; refine bxl ?_))
        refine go_name (F := fun w10 => At w10 w8.heap.size [.int .i64 e.1, .int .i64 e.2, .int .i64 0, .bool true, .bool false, .bool true, .bool true] 92 ∧ Ext w8 w10) ⟨by (repeat (first | assumption | (refine At.new' (by (first | omega | (simp; done) | (simp; omega))) _ _) | apply At.alloc | apply At.drewN | apply At.setRow | (apply At.setRow_neF; first | assumption | (apply Ne.symm; assumption) | omega) | (apply At.extF; assumption))), by (repeat (first | exact Fr.refl _ _ | assumption | apply Fr.drewN | apply Fr.alloc | (apply Fr.transF; assumption) | (refine Fr.setRow ?_ _ (by first | exact Or.inr (by (first | omega | (simp; done) | (simp; omega))) | (exact Or.inl (by first | assumption | (simp; done)))))))⟩ ?_
        rintro w10 ⟨hp10, hx10⟩
        have h10 := h8.ext hx10
        refine go_call rfl rfl (t_pop w10 w.heap.size w.heap.size vl P' _ h10.l (by omega)) ?_
        rintro _ w12 ⟨rfl, v12, l12, v12', f12⟩
        have h12 := h10.popL l12 v12' f12
        have hp12 := hp10.fr f12 (by omega)
        repeat (first | refine sp ?_ | (refine is_load ?_; refine ld ?_) | (refine is_store ?_; refine sr ?_) | (refine is_alloc ?_; refine al ?_) | (refine is_box ?_; refine bx ?_) | (refine isl_load ?_; refine ldl ?_) | (refine isl_store ?_; refine srl ?_) | (refine isl_alloc ?_; refine all' ?_) | (refine isl_box ?_; refine bxl ?_))
        refine go_as 87 (u' := .agg ⟨pairC (den (P' ++ [Itm.one e])) (den (R' ++ [Itm.one f]))⟩) rfl (by rw [hpc]) ?_
        refine go_callv rfl rfl rfl (hvis _ _ _ hne hj h12.ca) ?_
        rintro _ w13 ⟨bb, gv, rfl, f13, hc13, hy, hn⟩
        have h13 := h12.vis f13 hc13
        cases bb with
        | true =>
          obtain ⟨hg, hj'⟩ := hy rfl
          rw [hg] at h13
          rw [hnx, hny] at hj'
          repeat (first | refine sp ?_ | (refine is_load ?_; refine ld ?_) | (refine is_store ?_; refine sr ?_) | (refine is_alloc ?_; refine al ?_) | (refine is_box ?_; refine bx ?_) | (refine isl_load ?_; refine ldl ?_) | (refine isl_store ?_; refine srl ?_) | (refine isl_alloc ?_; refine all' ?_) | (refine isl_box ?_; refine bxl ?_))
          exact go_stop (G := List Itm × List Itm × Value × Value × AR) (_, _, _, _, B) rfl ⟨rfl, rfl, rfl, rfl, rfl, trivial⟩ ⟨h13, hj', by omega⟩ (by dsimp only; omega)
        | false =>
          rw [hn rfl] at h13
          repeat (first | refine sp ?_ | (refine is_load ?_; refine ld ?_) | (refine is_store ?_; refine sr ?_) | (refine is_alloc ?_; refine al ?_) | (refine is_box ?_; refine bx ?_) | (refine isl_load ?_; refine ldl ?_) | (refine isl_store ?_; refine srl ?_) | (refine isl_alloc ?_; refine all' ?_) | (refine isl_box ?_; refine bxl ?_))
          exact go_ret0 rfl ⟨_, rfl, rfl, B, h13.ar, h13.rd, h13.ca, h13.fr⟩
      · have b1 : inL (e :: den P') (f :: den R') = true := decide_eq_true (by omega)
        have b2 : inL (f :: den R') (e :: den P') = true := decide_eq_true (by omega)
        have hpc : pairC (den (P' ++ [Itm.one e])) (den (R' ++ [Itm.one f])) = [.int .i64 f.1, .int .i64 e.2, .int .i64 f.2, .bool true, .bool true, .bool true, .bool true] := by rw [dl, dr']; simp [pairC, pk, pv, b1, b2, hdK, hdV, mor]
        have hnx : nxt (den (P' ++ [Itm.one e])) (den (R' ++ [Itm.one f])) = den P' := by rw [dl, dr']; simp [nxt, b1]
        have hny : nxt (den (R' ++ [Itm.one f])) (den (P' ++ [Itm.one e])) = den R' := by rw [dl, dr']; simp [nxt, b2]
        repeat (first | refine sp ?_ | (refine is_load ?_; refine ld ?_) | (refine is_store ?_; refine sr ?_) | (refine is_alloc ?_; refine al ?_) | (refine is_box ?_; refine bx ?_) | (refine isl_load ?_; refine ldl ?_) | (refine isl_store ?_; refine srl ?_) | (refine isl_alloc ?_; refine all' ?_) | (refine isl_box ?_; refine bxl ?_))
        refine go_name (F := fun w9 => At w9 w8.heap.size [.int .i64 0, .int .i64 0, .int .i64 0, .bool true, .bool true, .bool true, .bool true] 92 ∧ At w9 b12 [.int .u32 i1, .int .i64 s1, .int .i64 e.1, .int .i64 e.2, .bool true] 141 ∧ At w9 b14 [.int .u32 i2, .int .i64 s2, .int .i64 f.1, .int .i64 f.2, .bool true] 141 ∧ Ext w8 w9) ⟨by (repeat (first | assumption | (refine At.new' (by (first | omega | (simp; done) | (simp; omega))) _ _) | apply At.alloc | apply At.drewN | apply At.setRow | (apply At.setRow_neF; first | assumption | (apply Ne.symm; assumption) | omega) | (apply At.extF; assumption))), by (repeat (first | assumption | (refine At.new' (by (first | omega | (simp; done) | (simp; omega))) _ _) | apply At.alloc | apply At.drewN | apply At.setRow | (apply At.setRow_neF; first | assumption | (apply Ne.symm; assumption) | omega) | (apply At.extF; assumption))), by (repeat (first | assumption | (refine At.new' (by (first | omega | (simp; done) | (simp; omega))) _ _) | apply At.alloc | apply At.drewN | apply At.setRow | (apply At.setRow_neF; first | assumption | (apply Ne.symm; assumption) | omega) | (apply At.extF; assumption))), by (repeat (first | exact Fr.refl _ _ | assumption | apply Fr.drewN | apply Fr.alloc | (apply Fr.transF; assumption) | (refine Fr.setRow ?_ _ (by first | exact Or.inr (by (first | omega | (simp; done) | (simp; omega))) | (exact Or.inl (by first | assumption | (simp; done)))))))⟩ ?_
        rintro w9 ⟨hp9, hc9, hd9, hx9⟩
        refine go_drawE (Fr (fun x => x = w8.heap.size) w9) 0 Try.follows (by kernel_rfl) (by kernel_rfl) (by kernel_rfl) ((Fr.refl _ _).drewN 1) ?_
        repeat (first | refine sp ?_ | (refine is_load ?_; refine ld ?_) | (refine is_store ?_; refine sr ?_) | (refine is_alloc ?_; refine al ?_) | (refine is_box ?_; refine bx ?_) | (refine isl_load ?_; refine ldl ?_) | (refine isl_store ?_; refine srl ?_) | (refine isl_alloc ?_; refine all' ?_) | (refine isl_box ?_; refine bxl ?_))
        refine go_name (F := fun w10 => At w10 w8.heap.size [.int .i64 e.1, .int .i64 e.2, .int .i64 0, .bool true, .bool true, .bool true, .bool true] 92 ∧ At w10 b14 [.int .u32 i2, .int .i64 s2, .int .i64 f.1, .int .i64 f.2, .bool true] 141 ∧ Ext w8 w10) ⟨by (repeat (first | assumption | (refine At.new' (by (first | omega | (simp; done) | (simp; omega))) _ _) | apply At.alloc | apply At.drewN | apply At.setRow | (apply At.setRow_neF; first | assumption | (apply Ne.symm; assumption) | omega) | (apply At.extF; assumption))), by (repeat (first | assumption | (refine At.new' (by (first | omega | (simp; done) | (simp; omega))) _ _) | apply At.alloc | apply At.drewN | apply At.setRow | (apply At.setRow_neF; first | assumption | (apply Ne.symm; assumption) | omega) | (apply At.extF; assumption))), by (repeat (first | exact Fr.refl _ _ | assumption | apply Fr.drewN | apply Fr.alloc | (apply Fr.transF; assumption) | (refine Fr.setRow ?_ _ (by first | exact Or.inr (by (first | omega | (simp; done) | (simp; omega))) | (exact Or.inl (by first | assumption | (simp; done)))))))⟩ ?_
        rintro w10 ⟨hp10, hd10, hx10⟩
        have h10 := h8.ext hx10
        have hs10 := hx10.size
        refine go_call rfl rfl (t_pop w10 w.heap.size w.heap.size vl P' _ h10.l (by omega)) ?_
        rintro _ w11 ⟨rfl, v11, l11, v11', f11⟩
        have h11 := h10.popL l11 v11' f11
        have hp11 := hp10.fr f11 (by omega)
        have hd11 := hd10.fr f11 (by omega)
        have hs11 := f11.size
        clear hp9 hc9 hd9 hx9 hp10 hd10
        repeat (first | refine sp ?_ | (refine is_load ?_; refine ld ?_) | (refine is_store ?_; refine sr ?_) | (refine is_alloc ?_; refine al ?_) | (refine is_box ?_; refine bx ?_) | (refine isl_load ?_; refine ldl ?_) | (refine isl_store ?_; refine srl ?_) | (refine isl_alloc ?_; refine all' ?_) | (refine isl_box ?_; refine bxl ?_))
        refine go_drawE (Fr (fun x => x = w8.heap.size) w11) 0 Try.follows (by kernel_rfl) (by kernel_rfl) (by kernel_rfl) ((Fr.refl _ _).drewN 1) ?_
        repeat (first | refine sp ?_ | (refine is_load ?_; refine ld ?_) | (refine is_store ?_; refine sr ?_) | (refine is_alloc ?_; refine al ?_) | (refine is_box ?_; refine bx ?_) | (refine isl_load ?_; refine ldl ?_) | (refine isl_store ?_; refine srl ?_) | (refine isl_alloc ?_; refine all' ?_) | (refine isl_box ?_; refine bxl ?_))
        refine go_name (F := fun w12 => At w12 w8.heap.size [.int .i64 f.1, .int .i64 e.2, .int .i64 f.2, .bool true, .bool true, .bool true, .bool true] 92 ∧ Fr (fun x => x = w8.heap.size) w11 w12) ⟨by (repeat (first | assumption | (refine At.new' (by (first | omega | (simp; done) | (simp; omega))) _ _) | apply At.alloc | apply At.drewN | apply At.setRow | (apply At.setRow_neF; first | assumption | (apply Ne.symm; assumption) | omega) | (apply At.extF; assumption))), by (repeat (first | exact Fr.refl _ _ | assumption | apply Fr.drewN | apply Fr.alloc | (apply Fr.transF; assumption) | (refine Fr.setRow ?_ _ (by first | exact Or.inr (by (first | omega | (simp; done) | (simp; omega))) | (exact Or.inl (by first | assumption | (simp; done)))))))⟩ ?_
        rintro w12 ⟨hp12, f12⟩
        have h12' := h11.frN f12 (by omega) (by omega) (fun y hy => by have := (h8.l.lo (v11' y hy)).2; omega) (fun y hy => by have := (h8.r.lo hy).2; omega) (by omega)
        refine go_call rfl rfl (t_pop w12 w.heap.size (w.heap.size + 1) vr R' _ h12'.r (by omega)) ?_
        rintro _ w14 ⟨rfl, v14, l14, v14', f14⟩
        have h12 := h12'.popR l14 v14' f14
        have hp14 := hp12.fr f14 (by omega)
        repeat (first | refine sp ?_ | (refine is_load ?_; refine ld ?_) | (refine is_store ?_; refine sr ?_) | (refine is_alloc ?_; refine al ?_) | (refine is_box ?_; refine bx ?_) | (refine isl_load ?_; refine ldl ?_) | (refine isl_store ?_; refine srl ?_) | (refine isl_alloc ?_; refine all' ?_) | (refine isl_box ?_; refine bxl ?_))
        refine go_as 87 (u' := .agg ⟨pairC (den (P' ++ [Itm.one e])) (den (R' ++ [Itm.one f]))⟩) rfl (by rw [hpc]) ?_
        refine go_callv rfl rfl rfl (hvis _ _ _ hne hj h12.ca) ?_
        rintro _ w13 ⟨bb, gv, rfl, f13, hc13, hy, hn⟩
        have h13 := h12.vis f13 hc13
        cases bb with
        | true =>
          obtain ⟨hg, hj'⟩ := hy rfl
          rw [hg] at h13
          rw [hnx, hny] at hj'
          repeat (first | refine sp ?_ | (refine is_load ?_; refine ld ?_) | (refine is_store ?_; refine sr ?_) | (refine is_alloc ?_; refine al ?_) | (refine is_box ?_; refine bx ?_) | (refine isl_load ?_; refine ldl ?_) | (refine isl_store ?_; refine srl ?_) | (refine isl_alloc ?_; refine all' ?_) | (refine isl_box ?_; refine bxl ?_))
          exact go_stop (G := List Itm × List Itm × Value × Value × AR) (_, _, _, _, B) rfl ⟨rfl, rfl, rfl, rfl, rfl, trivial⟩ ⟨h13, hj', by omega⟩ (by dsimp only; omega)
        | false =>
          rw [hn rfl] at h13
          repeat (first | refine sp ?_ | (refine is_load ?_; refine ld ?_) | (refine is_store ?_; refine sr ?_) | (refine is_alloc ?_; refine al ?_) | (refine is_box ?_; refine bx ?_) | (refine isl_load ?_; refine ldl ?_) | (refine isl_store ?_; refine srl ?_) | (refine isl_alloc ?_; refine all' ?_) | (refine isl_box ?_; refine bxl ?_))
          exact go_ret0 rfl ⟨_, rfl, rfl, B, h13.ar, h13.rd, h13.ca, h13.fr⟩
      · have b1 : inL (e :: den P') (f :: den R') = false := decide_eq_false (by omega)
        have b2 : inL (f :: den R') (e :: den P') = true := decide_eq_true (by omega)
        have hpc : pairC (den (P' ++ [Itm.one e])) (den (R' ++ [Itm.one f])) = [.int .i64 f.1, .int .i64 0, .int .i64 f.2, .bool false, .bool true, .bool true, .bool true] := by rw [dl, dr']; simp [pairC, pk, pv, b1, b2, hdK, hdV, mor]
        have hnx : nxt (den (P' ++ [Itm.one e])) (den (R' ++ [Itm.one f])) = den (P' ++ [Itm.one e]) := by rw [dl, dr']; simp [nxt, b1]
        have hny : nxt (den (R' ++ [Itm.one f])) (den (P' ++ [Itm.one e])) = den R' := by rw [dl, dr']; simp [nxt, b2]
        repeat (first | refine sp ?_ | (refine is_load ?_; refine ld ?_) | (refine is_store ?_; refine sr ?_) | (refine is_alloc ?_; refine al ?_) | (refine is_box ?_; refine bx ?_) | (refine isl_load ?_; refine ldl ?_) | (refine isl_store ?_; refine srl ?_) | (refine isl_alloc ?_; refine all' ?_) | (refine isl_box ?_; refine bxl ?_))
        refine go_name (F := fun w9 => At w9 w8.heap.size [.int .i64 0, .int .i64 0, .int .i64 0, .bool false, .bool true, .bool true, .bool true] 92 ∧ At w9 b14 [.int .u32 i2, .int .i64 s2, .int .i64 f.1, .int .i64 f.2, .bool true] 141 ∧ Ext w8 w9) ⟨by (repeat (first | assumption | (refine At.new' (by (first | omega | (simp; done) | (simp; omega))) _ _) | apply At.alloc | apply At.drewN | apply At.setRow | (apply At.setRow_neF; first | assumption | (apply Ne.symm; assumption) | omega) | (apply At.extF; assumption))), by (repeat (first | assumption | (refine At.new' (by (first | omega | (simp; done) | (simp; omega))) _ _) | apply At.alloc | apply At.drewN | apply At.setRow | (apply At.setRow_neF; first | assumption | (apply Ne.symm; assumption) | omega) | (apply At.extF; assumption))), by (repeat (first | exact Fr.refl _ _ | assumption | apply Fr.drewN | apply Fr.alloc | (apply Fr.transF; assumption) | (refine Fr.setRow ?_ _ (by first | exact Or.inr (by (first | omega | (simp; done) | (simp; omega))) | (exact Or.inl (by first | assumption | (simp; done)))))))⟩ ?_
        rintro w9 ⟨hp9, hd9, hx9⟩
        refine go_drawE (Fr (fun x => x = w8.heap.size) w9) 0 Try.follows (by kernel_rfl) (by kernel_rfl) (by kernel_rfl) ((Fr.refl _ _).drewN 1) ?_
        repeat (first | refine sp ?_ | (refine is_load ?_; refine ld ?_) | (refine is_store ?_; refine sr ?_) | (refine is_alloc ?_; refine al ?_) | (refine is_box ?_; refine bx ?_) | (refine isl_load ?_; refine ldl ?_) | (refine isl_store ?_; refine srl ?_) | (refine isl_alloc ?_; refine all' ?_) | (refine isl_box ?_; refine bxl ?_))
        refine go_name (F := fun w10 => At w10 w8.heap.size [.int .i64 f.1, .int .i64 0, .int .i64 f.2, .bool false, .bool true, .bool true, .bool true] 92 ∧ Ext w8 w10) ⟨by (repeat (first | assumption | (refine At.new' (by (first | omega | (simp; done) | (simp; omega))) _ _) | apply At.alloc | apply At.drewN | apply At.setRow | (apply At.setRow_neF; first | assumption | (apply Ne.symm; assumption) | omega) | (apply At.extF; assumption))), by (repeat (first | exact Fr.refl _ _ | assumption | apply Fr.drewN | apply Fr.alloc | (apply Fr.transF; assumption) | (refine Fr.setRow ?_ _ (by first | exact Or.inr (by (first | omega | (simp; done) | (simp; omega))) | (exact Or.inl (by first | assumption | (simp; done)))))))⟩ ?_
        rintro w10 ⟨hp10, hx10⟩
        have h10 := h8.ext hx10
        refine go_call rfl rfl (t_pop w10 w.heap.size (w.heap.size + 1) vr R' _ h10.r (by omega)) ?_
        rintro _ w12 ⟨rfl, v12, l12, v12', f12⟩
        have h12 := h10.popR l12 v12' f12
        have hp12 := hp10.fr f12 (by omega)
        repeat (first | refine sp ?_ | (refine is_load ?_; refine ld ?_) | (refine is_store ?_; refine sr ?_) | (refine is_alloc ?_; refine al ?_) | (refine is_box ?_; refine bx ?_) | (refine isl_load ?_; refine ldl ?_) | (refine isl_store ?_; refine srl ?_) | (refine isl_alloc ?_; refine all' ?_) | (refine isl_box ?_; refine bxl ?_))
        refine go_as 87 (u' := .agg ⟨pairC (den (P' ++ [Itm.one e])) (den (R' ++ [Itm.one f]))⟩) rfl (by rw [hpc]) ?_
        refine go_callv rfl rfl rfl (hvis _ _ _ hne hj h12.ca) ?_
        rintro _ w13 ⟨bb, gv, rfl, f13, hc13, hy, hn⟩
        have h13 := h12.vis f13 hc13
        cases bb with
        | true =>
          obtain ⟨hg, hj'⟩ := hy rfl
          rw [hg] at h13
          rw [hnx, hny] at hj'
          repeat (first | refine sp ?_ | (refine is_load ?_; refine ld ?_) | (refine is_store ?_; refine sr ?_) | (refine is_alloc ?_; refine al ?_) | (refine is_box ?_; refine bx ?_) | (refine isl_load ?_; refine ldl ?_) | (refine isl_store ?_; refine srl ?_) | (refine isl_alloc ?_; refine all' ?_) | (refine isl_box ?_; refine bxl ?_))
          exact go_stop (G := List Itm × List Itm × Value × Value × AR) (_, _, _, _, B) rfl ⟨rfl, rfl, rfl, rfl, rfl, trivial⟩ ⟨h13, hj', by omega⟩ (by dsimp only; omega)
        | false =>
          rw [hn rfl] at h13
          repeat (first | refine sp ?_ | (refine is_load ?_; refine ld ?_) | (refine is_store ?_; refine sr ?_) | (refine is_alloc ?_; refine al ?_) | (refine is_box ?_; refine bx ?_) | (refine isl_load ?_; refine ldl ?_) | (refine isl_store ?_; refine srl ?_) | (refine isl_alloc ?_; refine all' ?_) | (refine isl_box ?_; refine bxl ?_))
          exact go_ret0 rfl ⟨_, rfl, rfl, B, h13.ar, h13.rd, h13.ca, h13.fr⟩

end Go.Proofs.Yteghhalnpdikoaa
