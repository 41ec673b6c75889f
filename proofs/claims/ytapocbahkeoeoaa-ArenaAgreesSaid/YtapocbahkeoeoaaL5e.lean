/-
  The play of a caller of the arena.
-/
import Derived.Test.YtapocbahkeoeoaaL5d
set_option linter.unusedVariables false
namespace Go.Proofs.Ytapocbahkeoeoaa
open Go.Vc

structure Stp where
  (kd key val : Int) (l r : Nat)
def Stp.cells (s : Stp) : List Value := stepC s.kd s.key s.val s.l s.r
def Stp.wf (s : Stp) : Prop := (-9223372036854775808 ≤ s.kd ∧ s.kd ≤ 9223372036854775807) ∧ (-9223372036854775808 ≤ s.val ∧ s.val ≤ 9223372036854775807) ∧ s.l < 4294967296 ∧ s.r < 4294967296

set_option maxHeartbeats 4000000 in
theorem c_play (n : Nat) (lv : Value) (l : List Stp) (w : World) (h : Rd w 0 lv Stp.cells l) (hw : ∀ s ∈ l, s.wf) (hlen : l.length ≤ 9223372036854775807) (h1 : 1 ≤ n) (h2 : n ≤ 30) :
    Calls Try.prog 39 [.int .i64 (n : Int), lv].toArray w (Ret fun r w' => ∃ c p q A hv H, r = .tuple #[ptr c, .bool true] ∧ CliAt w' w.heap.size c p q A hv H ∧ A.cap = n ∧ H.length ≤ 80 ∧ Ext w w') := by
  obtain ⟨sl, cl, rfl, hcl, hr, hb⟩ := h
  refine calls_go Try.func39 rfl Try.ntmps39 (Nat.le_of_ble_eq_true rfl) ?_
  repeat (first | refine sp ?_ | (refine is_load ?_; refine ld ?_) | (refine is_store ?_; refine sr ?_) | (refine is_alloc ?_; refine al ?_) | (refine is_box ?_; refine bx ?_) | (refine isl_load ?_; refine ldl ?_) | (refine isl_store ?_; refine srl ?_) | (refine isl_alloc ?_; refine all' ?_) | (refine isl_box ?_; refine bxl ?_) | refine dr Try.follows ?_)
  refine go_call rfl rfl (p_New w n (by omega) (by omega)) ?_
  rintro r w1 ⟨p, q, rfl, ha, hq, hx⟩
  repeat (first | refine sp ?_ | (refine is_load ?_; refine ld ?_) | (refine is_store ?_; refine sr ?_) | (refine is_alloc ?_; refine al ?_) | (refine is_box ?_; refine bx ?_) | (refine isl_load ?_; refine ldl ?_) | (refine isl_store ?_; refine srl ?_) | (refine isl_alloc ?_; refine all' ?_) | (refine isl_box ?_; refine bxl ?_) | refine dr Try.follows ?_)
  have hl1 := hx.size
  have ha1 : ArP (w1.alloc (.cells #[ptr p, .slice none 0 0] 67)) w.heap.size p q (AR.new n) := ha.ext (by (repeat (first | exact Fr.refl _ _ | assumption | apply Fr.drewN | apply Fr.alloc | (apply Fr.transF; assumption) | (refine Fr.setRow ?_ _ (by first | exact Or.inr (by (first | omega | (simp; done) | (simp; omega))) | (exact Or.inl (by first | assumption | (simp; done))))))))
  refine go_loop (G := Nat × AP × AR × Value × List Nat) [9] (fun ⟨k, _, _, _, _⟩ => [.int .i64 (k : Int)]) [(1, .slice sl l.length cl), (8, ptr w1.heap.size)]
    (fun ⟨k, q, A, hv, H⟩ w' => k ≤ l.length ∧ k ≤ 80 ∧ H.length ≤ k ∧ A.cap = n ∧ CliAt w' w.heap.size w1.heap.size p q A hv H ∧ Ext w w') (fun g => l.length - g.1) (0, q, AR.new n, .slice none 0 0, []) rfl ⟨rfl, rfl, trivial⟩
    ⟨by omega, by omega, by simp, rfl, ⟨by (repeat (first | assumption | (refine At.new' (by (first | omega | (simp; done) | (simp; omega))) _ _) | apply At.alloc | apply At.drewN | apply At.setRow | (apply At.setRow_neF; first | assumption | (apply Ne.symm; assumption) | omega) | (apply At.extF; assumption))), ha1, OwnN.nil _ _, (by intro b hb; cases hb), (Sound.new h1 (by omega)).congr (by intro i _; simp), h2, (by intro i hi; cases hi), hl1, hq, (by simp; omega)⟩, by (repeat (first | exact Fr.refl _ _ | assumption | apply Fr.drewN | apply Fr.alloc | (apply Fr.transF; assumption) | (refine Fr.setRow ?_ _ (by first | exact Or.inr (by (first | omega | (simp; done) | (simp; omega))) | (exact Or.inl (by first | assumption | (simp; done)))))))⟩ ?_
  rintro ⟨k, q, A, hv, H⟩ w2 ⟨hk, hk80, hH, hcap, g, hx2⟩
  by_cases hlt : k < l.length
  · by_cases hlt2 : k < 80
    · obtain ⟨b, o, rfl, hcell⟩ := (hr.ext hx2).at (m := 5) (fun _ => rfl) (by omega) hlt
      have hwk := hw l[k] (List.getElem_mem hlt)
      generalize l[k] = s at hcell hwk
      repeat (first | refine sp ?_ | (refine is_load ?_; refine ld ?_) | (refine is_store ?_; refine sr ?_) | (refine is_alloc ?_; refine al ?_) | (refine is_box ?_; refine bx ?_) | (refine isl_load ?_; refine ldl ?_) | (refine isl_store ?_; refine srl ?_) | (refine isl_alloc ?_; refine all' ?_) | (refine isl_box ?_; refine bxl ?_) | refine dr Try.follows ?_)
      refine go_load (v := .agg (stepC s.kd s.key s.val s.l s.r).toArray) rfl rfl (ld_cells (m := 5) rfl (by decide) fun j u hj => by rw [addr_add]; exact hcell j u hj) ?_
      refine go_call rfl rfl (c_step w2 _ _ p q A hv H s.kd s.key s.val s.l s.r g (by omega) hwk.1 hwk.2.1 hwk.2.2.1 hwk.2.2.2) ?_
      rintro r w3 ⟨rfl, q3, A3, hv3, H3, g3, hc3, hl3, hf3⟩
      repeat (first | refine sp ?_ | (refine is_load ?_; refine ld ?_) | (refine is_store ?_; refine sr ?_) | (refine is_alloc ?_; refine al ?_) | (refine is_box ?_; refine bx ?_) | (refine isl_load ?_; refine ldl ?_) | (refine isl_store ?_; refine srl ?_) | (refine isl_alloc ?_; refine all' ?_) | (refine isl_box ?_; refine bxl ?_) | refine dr Try.follows ?_)
      refine go_stop (G := Nat × AP × AR × Value × List Nat) (k + 1, q3, A3, hv3, H3) rfl ⟨rfl, rfl, trivial⟩ ⟨hlt, hlt2, by omega, hc3.trans hcap, g3, hx2.trans' hf3 fun b hb hs => by omega⟩ (by show l.length - (k + 1) < l.length - k; omega)
    · repeat (first | refine sp ?_ | (refine is_load ?_; refine ld ?_) | (refine is_store ?_; refine sr ?_) | (refine is_alloc ?_; refine al ?_) | (refine is_box ?_; refine bx ?_) | (refine isl_load ?_; refine ldl ?_) | (refine isl_store ?_; refine srl ?_) | (refine isl_alloc ?_; refine all' ?_) | (refine isl_box ?_; refine bxl ?_) | refine dr Try.follows ?_)
      exact go_ret2 rfl rfl rfl ⟨_, rfl, _, p, q, A, hv, H, rfl, g, hcap, by omega, hx2⟩
  · repeat (first | refine sp ?_ | (refine is_load ?_; refine ld ?_) | (refine is_store ?_; refine sr ?_) | (refine is_alloc ?_; refine al ?_) | (refine is_box ?_; refine bx ?_) | (refine isl_load ?_; refine ldl ?_) | (refine isl_store ?_; refine srl ?_) | (refine isl_alloc ?_; refine all' ?_) | (refine isl_box ?_; refine bxl ?_) | refine dr Try.follows ?_)
    exact go_ret2 rfl rfl rfl ⟨_, rfl, _, p, q, A, hv, H, rfl, g, hcap, by omega, hx2⟩

theorem Sound.read {A : AR} {h : Nat → Nat} (s : Sound A h) {i : Nat} (hw : Wf (A.read i)) (ok : NdOk (A.read i)) : Sound (A.read i) h := by
  by_cases hu : A.used i = true
  · have e : A.read i = { A with reads := (A.reads + 1) % 18446744073709551616 } := by unfold AR.read; rw [if_pos hu]
    rw [e] at hw ok ⊢
    exact ⟨hw, ok, s.cnt, s.pos, s.hz, s.kid, s.agg, s.zero⟩
  · have e : A.read i = A := by unfold AR.read; rw [if_neg hu]
    rw [e]; exact s

theorem read_eqs (A : AR) (i : Nat) : (A.read i).used = A.used ∧ (A.read i).node = A.node ∧ (A.read i).cap = A.cap ∧ (∀ k v l r, mkN (A.read i) k v l r = mkN A k v l r) ∧ (∀ j, (A.read i).nodeOf j = A.nodeOf j) ∧ ∀ j, (A.read i).sizeOf j = A.sizeOf j := by
  unfold AR.read; split <;> exact ⟨rfl, rfl, rfl, fun _ _ _ _ => rfl, fun _ => rfl, fun _ => rfl⟩

theorem CliAt.read {w w' : World} {lo c p : Nat} {q : AP} {A : AR} {hv : Value} {H : List Nat} {i : Nat} (g : CliAt w lo c p q A hv H) (ha : ArP w' lo p q (A.read i)) (hf : Fr (fun b => b = p) w w') : CliAt w' lo c p q (A.read i) hv H ∧ FrL lo w w' := by
  have hne : ¬ q.fp c := g.ar.apart g.hc (by decide) (by decide) (by decide) (by decide) (by decide) (by decide)
  refine ⟨⟨g.hc.fr hf (fun e => hne (e ▸ g.ar.fpp)), ha, ?_, g.dis, g.snd.read ha.wf ha.ok, by rw [(read_eqs A i).2.2.1]; exact g.cap, (by intro k hk; rw [(read_eqs A i).1] at hk; rw [(read_eqs A i).2.1]; exact g.vr k hk), g.loc, g.lof, Nat.le_trans g.los hf.size⟩, hf.mono fun b e => by rw [e]; exact g.lof p g.ar.fpp⟩
  exact Own.of_heap g.ho fun b hb => hf.block b (World.ownsRow.lt g.ho b hb).2 (fun e => g.dis b hb (e ▸ g.ar.fpp))

theorem CliAt.fr {w w' : World} {lo c p : Nat} {q : AP} {A : AR} {hv : Value} {H : List Nat} {S : Nat → Prop} (g : CliAt w lo c p q A hv H) (f : Fr S w w') (hS : ∀ b, b = c ∨ q.fp b ∨ hv.ownBlock = some b → ¬ S b) : CliAt w' lo c p q A hv H :=
  ⟨g.hc.fr f (hS c (Or.inl rfl)), g.ar.fr f (fun b hb => hS b (Or.inr (Or.inl hb))), Own.of_heap g.ho fun b hb => f.block b (World.ownsRow.lt g.ho b hb).2 (hS b (Or.inr (Or.inr hb))), g.dis, g.snd, g.cap, g.vr, g.loc, g.lof, Nat.le_trans g.los f.size⟩

theorem CliAt.lt {w : World} {lo c p : Nat} {q : AP} {A : AR} {hv : Value} {H : List Nat} (g : CliAt w lo c p q A hv H) : ∀ b, b = c ∨ q.fp b ∨ hv.ownBlock = some b → b < w.heap.size := by
  rintro b (rfl | hb | hb)
  · exact g.hc.lt
  · exact g.ar.lt b hb
  · exact (World.ownsRow.lt g.ho b hb).2

set_option maxHeartbeats 4000000 in
theorem c_below (w : World) (lo c p : Nat) (q : AP) (A : AR) (hv : Value) (H : List Nat) (i : Nat) (g : CliAt w lo c p q A hv H) (hi : i < 4294967296) :
    Calls Try.prog 41 [ptr c, .int .u32 (i : Int)].toArray w (Ret fun r w' => r = .agg ⟨(A.nodeOf i).cells⟩ ∧ CliAt w' lo c p q (A.read i) hv H ∧ Fr (fun b => b = p) w w') := by
  have hc := g.hc
  refine calls_go Try.func41 rfl Try.ntmps41 (Nat.le_of_ble_eq_true rfl) ?_
  repeat (first | refine sp ?_ | (refine is_load ?_; refine ld ?_) | (refine is_store ?_; refine sr ?_) | (refine is_alloc ?_; refine al ?_) | (refine is_box ?_; refine bx ?_) | (refine isl_load ?_; refine ldl ?_) | (refine isl_store ?_; refine srl ?_) | (refine isl_alloc ?_; refine all' ?_) | (refine isl_box ?_; refine bxl ?_) | refine dr Try.follows ?_)
  have g1 := g.ext (w' := w.alloc (.cells #[.int .i64 0, .int .i64 0, .int .u32 0, .int .u32 0, .int .i64 0, .int .i64 0, .int .i64 0, .int .i64 0] 50)) (by (repeat (first | exact Fr.refl _ _ | assumption | apply Fr.drewN | apply Fr.alloc | (apply Fr.transF; assumption) | (refine Fr.setRow ?_ _ (by first | exact Or.inr (by (first | omega | (simp; done) | (simp; omega))) | (exact Or.inl (by first | assumption | (simp; done))))))))
  refine go_call rfl rfl (p_Node _ lo p q A i g1.ar hi) ?_
  rintro _ w1 ⟨rfl, ha, hf⟩
  obtain ⟨g2, hf2⟩ := g1.read ha hf
  have hne : w.heap.size ≠ p := fun e => by have := g.ar.lt p g.ar.fpp; omega
  have hl1 := hf.size
  simp at hl1
  have hret : At w1 w.heap.size [.int .i64 0, .int .i64 0, .int .u32 0, .int .u32 0, .int .i64 0, .int .i64 0, .int .i64 0, .int .i64 0] 50 := At.fr (At.new _ _ _) hf hne
  generalize hN : A.nodeOf i = N
  unfold Nd.cells
  repeat (first | refine sp ?_ | (refine is_load ?_; refine ld ?_) | (refine is_store ?_; refine sr ?_) | (refine is_alloc ?_; refine al ?_) | (refine is_box ?_; refine bx ?_) | (refine isl_load ?_; refine ldl ?_) | (refine isl_store ?_; refine srl ?_) | (refine isl_alloc ?_; refine all' ?_) | (refine isl_box ?_; refine bxl ?_) | refine dr Try.follows ?_)
  have hF : Fr (fun b => w.heap.size ≤ b) w1 (((w1.alloc (.cells #[.int .i64 0, .int .i64 0, .int .u32 0, .int .u32 0, .int .i64 0, .int .i64 0, .int .i64 0, .int .i64 0] 50)).setRow w1.heap.size N.cells.toArray).setRow w.heap.size N.cells.toArray) :=
    (((Fr.refl _ _).alloc _).setRow _ (Or.inr (Nat.le_refl _))).setRow _ (Or.inl (Nat.le_refl _))
  have g3 := g2.fr hF fun b hb hs => by have := g.lt b hb; omega
  have hlo := g.los
  refine go_ret1 rfl ⟨_, rfl, Ld.run (ld_part (by (repeat (first | assumption | (refine At.new' (by (first | omega | (simp; done) | (simp; omega))) _ _) | apply At.alloc | apply At.drewN | apply At.setRow | (apply At.setRow_neF; first | assumption | (apply Ne.symm; assumption) | omega) | (apply At.extF; assumption)))) rfl rfl)⟩ ⟨_, rfl, rfl, g3, ?_⟩
  exact (Fr.trans ((Fr.refl _ _).alloc _) hf).trans' hF fun b hb hs => by omega

end Go.Proofs.Ytapocbahkeoeoaa
