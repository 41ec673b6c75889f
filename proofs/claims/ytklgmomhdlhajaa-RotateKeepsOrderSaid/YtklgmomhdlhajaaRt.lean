/-
  Rotations keep the order.
-/
import Derived.Test.YtklgmomhdlhajaaRi
import Derived.Test.YtklgmomhdlhajaaRf
import Derived.Test.YtklgmomhdlhajaaDl
set_option linter.unusedVariables false
namespace Go.Proofs.Ytklgmomhdlhajaa
open Go.Vc

theorem int_wfu8 {a : Int} (h : (Lit.int .u8 a).wf = true) : 0 ≤ a ∧ a ≤ 255 := by
  simpa [Lit.wf, IntKind.min, IntKind.max, IntKind.signed, IntKind.bits] using h
theorem IsN.inA {A R : AR} {h : Nat → Nat} {i : Nat} {k v : Int} {l r : Tr} (n : IsN A R i k v l.root r.root) (s : Sound R h) (hl : InA R l) (hr : InA R r) : InA R (.nd i l k v r) := by
  refine ⟨n.i1, n.use, ?_, hl, hr⟩
  have := s.agg i n.use
  rw [n.key, n.val, n.left, n.right] at this
  exact this
theorem InA.isNd {A : AR} {t : Tr} (h : InA A t) (hw : Wf A) (hu : A.used t.root = true) : ∃ i l k v r, t = .nd i l k v r ∧ A.used i = true ∧ (A.node i).key = k ∧ (A.node i).val = v ∧ (A.node i).left = l.root ∧ (A.node i).right = r.root ∧ InA A l ∧ InA A r := by
  cases t with
  | nil => rw [show Tr.nil.root = 0 from rfl, hw.u0] at hu; cases hu
  | nd i l k v r =>
    have e := mkN_lr A k v l.root r.root
    rw [← h.2.2.1] at e
    exact ⟨i, l, k, v, r, rfl, h.2.1, e.1, e.2.1, e.2.2.1, e.2.2.2, h.2.2.2.1, h.2.2.2.2⟩

theorem rot_tree {B R : AR} {t : Tr} {h' : Nat → Nat} {kk o : Nat} (hi : InA B t) (hw : Wf B) (kp : Kp B R) (s : Sound R h') (hF : FK B t.root kk) (hG : GK B t.root kk R o) (hk : kk < 4) : ∃ t', InA R t' ∧ t'.root = o ∧ t'.ents = t.ents := by
  have keep : ∀ {T}, InA B T → InA R T := fun h => InA.keep (fun i hi => ⟨(kp.old i hi).1, (kp.old i hi).2.1⟩) h
  have hk4 : kk = 0 ∨ kk = 1 ∨ kk = 2 ∨ kk = 3 := by omega
  rcases hk4 with rfl | rfl | rfl | rfl
  · obtain ⟨hu, hu2⟩ := hF
    obtain ⟨i, l, k, v, r, rfl, _, a1, a2, a3, a4, il, ir⟩ := hi.isNd hw hu
    rw [show (Tr.nd i l k v r).root = i from rfl] at *
    obtain ⟨m, n1, n2⟩ := hG
    rw [a4] at hu2 n1 n2
    obtain ⟨j, rl, k2, v2, rr, rfl, _, b1, b2, b3, b4, irl, irr⟩ := ir.isNd hw hu2
    rw [show (Tr.nd j rl k2 v2 rr).root = j from rfl] at *
    rw [b1, b2, b4] at n1
    rw [a1, a2, a3, b3] at n2
    exact ⟨.nd o (.nd m l k v rl) k2 v2 rr, IsN.inA (l := .nd m l k v rl) n1 s (n2.inA s (keep il) (keep irl)) (keep irr), rfl, by simp [Tr.ents]⟩
  · obtain ⟨hu, hu2⟩ := hF
    obtain ⟨i, l, k, v, r, rfl, _, a1, a2, a3, a4, il, ir⟩ := hi.isNd hw hu
    rw [show (Tr.nd i l k v r).root = i from rfl] at *
    obtain ⟨m, n1, n2⟩ := hG
    rw [a3] at hu2 n1 n2
    obtain ⟨j, ll, k2, v2, lr, rfl, _, b1, b2, b3, b4, ill, ilr⟩ := il.isNd hw hu2
    rw [show (Tr.nd j ll k2 v2 lr).root = j from rfl] at *
    rw [b1, b2, b3] at n1
    rw [a1, a2, a4, b4] at n2
    exact ⟨.nd o ll k2 v2 (.nd m lr k v r), IsN.inA (r := .nd m lr k v r) n1 s (keep ill) (n2.inA s (keep ilr) (keep ir)), rfl, by simp [Tr.ents]⟩
  · obtain ⟨hu, hu2, hu3⟩ := hF
    obtain ⟨i, l, k, v, r, rfl, _, a1, a2, a3, a4, il, ir⟩ := hi.isNd hw hu
    rw [show (Tr.nd i l k v r).root = i from rfl] at *
    obtain ⟨m, m2, n1, n2, n3⟩ := hG
    rw [a4] at hu2 hu3 n1 n2 n3
    obtain ⟨j, rl, k2, v2, rr, rfl, _, b1, b2, b3, b4, irl, irr⟩ := ir.isNd hw hu2
    rw [show (Tr.nd j rl k2 v2 rr).root = j from rfl] at *
    rw [b3] at hu3 n1 n2 n3
    obtain ⟨q, ql, k3, v3, qr, rfl, _, c1', c2', c3', c4', iql, iqr⟩ := irl.isNd hw hu3
    rw [show (Tr.nd q ql k3 v3 qr).root = q from rfl] at *
    rw [c1', c2'] at n1
    rw [a1, a2, a3, c3'] at n2
    rw [b1, b2, b4, c4'] at n3
    exact ⟨.nd o (.nd m l k v ql) k3 v3 (.nd m2 qr k2 v2 rr), IsN.inA (l := .nd m l k v ql) (r := .nd m2 qr k2 v2 rr) n1 s (n2.inA s (keep il) (keep iql)) (n3.inA s (keep iqr) (keep irr)), rfl, by simp [Tr.ents]⟩
  · obtain ⟨hu, hu2, hu3⟩ := hF
    obtain ⟨i, l, k, v, r, rfl, _, a1, a2, a3, a4, il, ir⟩ := hi.isNd hw hu
    rw [show (Tr.nd i l k v r).root = i from rfl] at *
    obtain ⟨m, m2, n1, n2, n3⟩ := hG
    rw [a3] at hu2 hu3 n1 n2 n3
    obtain ⟨j, ll, k2, v2, lr, rfl, _, b1, b2, b3, b4, ill, ilr⟩ := il.isNd hw hu2
    rw [show (Tr.nd j ll k2 v2 lr).root = j from rfl] at *
    rw [b4] at hu3 n1 n2 n3
    obtain ⟨q, ql, k3, v3, qr, rfl, _, c1', c2', c3', c4', iql, iqr⟩ := ilr.isNd hw hu3
    rw [show (Tr.nd q ql k3 v3 qr).root = q from rfl] at *
    rw [c1', c2'] at n1
    rw [b1, b2, b3, c3'] at n2
    rw [a1, a2, a4, c4'] at n3
    exact ⟨.nd o (.nd m ll k2 v2 ql) k3 v3 (.nd m2 qr k v r), IsN.inA (l := .nd m ll k2 v2 ql) (r := .nd m2 qr k v r) n1 s (n2.inA s (keep ill) (keep iql)) (n3.inA s (keep iqr) (keep ir)), rfl, by simp [Tr.ents]⟩

set_option maxHeartbeats 8000000 in
theorem c_LawKeeps (lv : Value) (l : List (Int × Int)) (tilt : Int) (kind : Int) (w : World) (h : Rd w 0 lv entC l) (he : InE l) (hlen : l.length ≤ 9223372036854775807) (ht : 0 ≤ tilt ∧ tilt ≤ 18446744073709551615) (hkd : 0 ≤ kind ∧ kind ≤ 255) :
    Calls Try.prog 11 [lv, .int .u64 tilt, .int .u8 kind].toArray w (Ret fun v w' => v = .bool true ∧ Ext w w') := by
  obtain ⟨K, rfl⟩ := Int.eq_ofNat_of_zero_le hkd.1
  refine calls_go Try.func11 rfl Try.ntmps11 (Nat.le_of_ble_eq_true rfl) ?_
  repeat (first | refine sp ?_ | (refine is_load ?_; refine ld ?_) | (refine is_store ?_; refine sr ?_) | (refine is_alloc ?_; refine al ?_) | (refine is_box ?_; refine bx ?_) | (refine isl_load ?_; refine ldl ?_) | (refine isl_store ?_; refine srl ?_) | (refine isl_alloc ?_; refine all' ?_) | (refine isl_box ?_; refine bxl ?_))
  refine go_call rfl rfl (c_List w lv l 60 h.up he hlen (by omega)) ?_
  rintro v1 w1 ⟨a, ha, hok, hx1⟩
  obtain ⟨sa, cap, rfl, hlc, _, _⟩ := ha
  have ha : RdU w1 w1.heap.size (.slice sa a.length cap) entC a := ⟨sa, cap, rfl, hlc, by assumption, by assumption⟩
  repeat (first | refine sp ?_ | (refine is_load ?_; refine ld ?_) | (refine is_store ?_; refine sr ?_) | (refine is_alloc ?_; refine al ?_) | (refine is_box ?_; refine bx ?_) | (refine isl_load ?_; refine ldl ?_) | (refine isl_store ?_; refine srl ?_) | (refine isl_alloc ?_; refine all' ?_) | (refine isl_box ?_; refine bxl ?_))
  refine go_call rfl rfl (c_GrowT w1 w1 a 60 _ tilt 3 ha hok (by omega) (by omega) (by omega) ht (Fr.refl _ _)) ?_
  rintro _ w2 ⟨lo, p, q, B, t, rfl, g, hen, hsz, hre, hcp, hpb, hx2, hfree⟩
  repeat (first | refine sp ?_ | (refine is_load ?_; refine ld ?_) | (refine is_store ?_; refine sr ?_) | (refine is_alloc ?_; refine al ?_) | (refine is_box ?_; refine bx ?_) | (refine isl_load ?_; refine ldl ?_) | (refine isl_store ?_; refine srl ?_) | (refine isl_alloc ?_; refine all' ?_) | (refine isl_box ?_; refine bxl ?_))
  refine go_call rfl rfl (c_awake12 w2) ?_
  rintro _ w3 ⟨rfl, hx3⟩
  have g3 := g.step hx3
  have gA : Ars w3 lo p q B (fun i => eq01 t.root i) := ⟨g3.ar, g3.snd, g3.lof.2.1, g3.lof.1⟩
  have hb1 : ∀ i, eq01 t.root i ≤ 1 := fun i => by unfold eq01; split <;> omega
  have hb3 : ∀ i, eq01 t.root i ≤ 1000000 := fun i => by have := hb1 i; omega
  have hrt : t.root = 0 ∨ B.used t.root = true := g3.inA.or
  have hrl := used_lt g3.ar.wf hrt
  have hk4 : K % 4 < 4 := Nat.mod_lt _ (by omega)
  have hal := hok.len
  repeat (first | refine sp ?_ | (refine is_load ?_; refine ld ?_) | (refine is_store ?_; refine sr ?_) | (refine is_alloc ?_; refine al ?_) | (refine is_box ?_; refine bx ?_) | (refine isl_load ?_; refine ldl ?_) | (refine isl_store ?_; refine srl ?_) | (refine isl_alloc ?_; refine all' ?_) | (refine isl_box ?_; refine bxl ?_))
  refine go_call rfl rfl (c_call w3 lo p q B _ t.root (K % 4) gA hb3 hrl hk4) ?_
  have hkm : mK (K % 4) ≤ 3 := by unfold mK; split <;> omega
  rintro v4 w4 (⟨hF4, _, q4, R, o, rfl, g4, kp4, hfr4, hG4, hq4, hf4⟩ | ⟨E, B', rfl, hE, g4, r4, hf4⟩)
  · have hx4 : Ext w1 w4 := g3.ext.trans' hf4 fun b hb e => by have := gA.lof b e; have := g3.lof.2.2; omega
    obtain ⟨t', hi', hr', he'⟩ := rot_tree g3.inA g3.ar.wf kp4 g4.snd hF4 hG4 hk4
    have hln : t'.sz = t.sz := by rw [← Tr.ents_len, ← Tr.ents_len, he']
    have hlo := used_lt g4.ar.wf (hi'.or)
    repeat (first | refine sp ?_ | (refine is_load ?_; refine ld ?_) | (refine is_store ?_; refine sr ?_) | (refine is_alloc ?_; refine al ?_) | (refine is_box ?_; refine bx ?_) | (refine isl_load ?_; refine ldl ?_) | (refine isl_store ?_; refine srl ?_) | (refine isl_alloc ?_; refine all' ?_) | (refine isl_box ?_; refine bxl ?_))
    refine go_call rfl rfl (p_Dump w4 lo p q4 R g4.ar) ?_
    rintro _ w5 ⟨hd5, hx5⟩
    have hd5' := hd5
    obtain ⟨s1, c1, s2, c2, rfl, _, _⟩ := hd5'.b
    repeat (first | refine sp ?_ | (refine is_load ?_; refine ld ?_) | (refine is_store ?_; refine sr ?_) | (refine is_alloc ?_; refine al ?_) | (refine is_box ?_; refine bx ?_) | (refine isl_load ?_; refine ldl ?_) | (refine isl_store ?_; refine srl ?_) | (refine isl_alloc ?_; refine all' ?_) | (refine isl_box ?_; refine bxl ?_))
    subst hr'
    refine go_call rfl rfl (c_ref7List t' w5 _ _ R g4.ar.wf hd5 hi' (by omega)) ?_
    rintro v6 w6 ⟨ho6, hx6⟩
    rw [he', hen] at ho6
    have ho6r : Rd w6 w5.heap.size v6 entC a := Own.rd ho6 rfl
    have hu6 := ho6r.up
    obtain ⟨s6, c6, rfl, _, _⟩ := Own.slice ho6
    have hx6' := (hx4.trans hx5).trans hx6
    repeat (first | refine sp ?_ | (refine is_load ?_; refine ld ?_) | (refine is_store ?_; refine sr ?_) | (refine is_alloc ?_; refine al ?_) | (refine is_box ?_; refine bx ?_) | (refine isl_load ?_; refine ldl ?_) | (refine isl_store ?_; refine srl ?_) | (refine isl_alloc ?_; refine all' ?_) | (refine isl_box ?_; refine bxl ?_))
    refine go_call rfl rfl (c_Same w6 _ _ _ _ a hu6 (ha.ext hx6') (by omega)) ?_
    rintro _ w7 ⟨rfl, hx7⟩
    have hx7' := hx6'.trans hx7
    repeat (first | refine sp ?_ | (refine is_load ?_; refine ld ?_) | (refine is_store ?_; refine sr ?_) | (refine is_alloc ?_; refine al ?_) | (refine is_box ?_; refine bx ?_) | (refine isl_load ?_; refine ldl ?_) | (refine isl_store ?_; refine srl ?_) | (refine isl_alloc ?_; refine all' ?_) | (refine isl_box ?_; refine bxl ?_))
    refine go_litG (l := [.int .u32 (t.root : Int), .int .u32 (t'.root : Int)]) rfl rfl (by decide) (by decide) rfl ?_
    have hx8 : Ext w7 (w7.alloc (.cells [Value.int .u32 (t.root : Int), .int .u32 (t'.root : Int)].toArray 32)) := by (repeat (first | exact Fr.refl _ _ | assumption | apply Fr.drewN | apply Fr.alloc | (apply Fr.transF; assumption) | (refine Fr.setRow ?_ _ (by first | exact Or.inr (by (first | omega | (simp; done) | (simp; omega))) | (exact Or.inl (by first | assumption | (simp; done)))))))
    have hat8 := At.new w7 [Value.int .u32 (t.root : Int), .int .u32 (t'.root : Int)] 32
    have g8 := (((g4.ext hx5).ext hx6).ext hx7).ext hx8
    have hr8 : Rd _ 0 (.slice (some ⟨w7.heap.size, 0, none⟩) 2 2) u32c [t.root, t'.root] := At.rd (n := 2) hat8 rfl (by omega)
    repeat (first | refine sp ?_ | (refine is_load ?_; refine ld ?_) | (refine is_store ?_; refine sr ?_) | (refine is_alloc ?_; refine al ?_) | (refine is_box ?_; refine bx ?_) | (refine isl_load ?_; refine ldl ?_) | (refine isl_store ?_; refine srl ?_) | (refine isl_alloc ?_; refine all' ?_) | (refine isl_box ?_; refine bxl ?_))
    refine go_call rfl rfl (c_KSound _ lo p _ q4 _ R _ [t.root, t'.root] g8.ar g8.snd hr8.up (Nat.le_refl _) (by simp) (by intro x hx; simp at hx; rcases hx with rfl | rfl <;> omega) (by intro i hi; unfold addH eq01; simp only [List.count_cons, List.count_nil, beq_iff_eq]; omega)) ?_
    rintro _ w9 ⟨rfl, hx9⟩
    repeat (first | refine sp ?_ | (refine is_load ?_; refine ld ?_) | (refine is_store ?_; refine sr ?_) | (refine is_alloc ?_; refine al ?_) | (refine is_box ?_; refine bx ?_) | (refine isl_load ?_; refine ldl ?_) | (refine isl_store ?_; refine srl ?_) | (refine isl_alloc ?_; refine all' ?_) | (refine isl_box ?_; refine bxl ?_))
    exact go_ret1 rfl rfl ⟨_, rfl, rfl, ((hx1.trans hx7').trans hx8).trans hx9⟩
  · have hx4 : Ext w1 w4 := g3.ext.trans' hf4 fun b hb e => by have := gA.lof b e; have := g3.lof.2.2; omega
    obtain ⟨rfl, hnF⟩ : E = 1 ∧ ¬ FK B t.root (K % 4) := by
      rcases hE with h | ⟨_, _, h⟩
      · exact h
      · omega
    repeat (first | refine sp ?_ | (refine is_load ?_; refine ld ?_) | (refine is_store ?_; refine sr ?_) | (refine is_alloc ?_; refine al ?_) | (refine is_box ?_; refine bx ?_) | (refine isl_load ?_; refine ldl ?_) | (refine isl_store ?_; refine srl ?_) | (refine isl_alloc ?_; refine all' ?_) | (refine isl_box ?_; refine bxl ?_))
    refine go_call rfl rfl (p_Dump w4 lo p q B' g4.ar) ?_
    rintro _ w5 ⟨hd5, hx5⟩
    have hd5' := hd5
    obtain ⟨s1, c1, s2, c2, rfl, _, _⟩ := hd5'.b
    repeat (first | refine sp ?_ | (refine is_load ?_; refine ld ?_) | (refine is_store ?_; refine sr ?_) | (refine is_alloc ?_; refine al ?_) | (refine is_box ?_; refine bx ?_) | (refine isl_load ?_; refine ldl ?_) | (refine isl_store ?_; refine srl ?_) | (refine isl_alloc ?_; refine all' ?_) | (refine isl_box ?_; refine bxl ?_))
    refine go_call rfl rfl (c_formed w5 _ _ B' _ t.root (K % 4) g4.snd hd5 hrl hk4) ?_
    rintro _ w6 ⟨⟨b, rfl, hb⟩, hx6⟩
    have hbf : b = false := by
      cases b with
      | false => rfl
      | true =>
        exfalso
        have h1 := hb.1 rfl
        rw [r4.eq] at h1
        exact hnF h1
    subst hbf
    repeat (first | refine sp ?_ | (refine is_load ?_; refine ld ?_) | (refine is_store ?_; refine sr ?_) | (refine is_alloc ?_; refine al ?_) | (refine is_box ?_; refine bx ?_) | (refine isl_load ?_; refine ldl ?_) | (refine isl_store ?_; refine srl ?_) | (refine isl_alloc ?_; refine all' ?_) | (refine isl_box ?_; refine bxl ?_))
    exact go_ret1 rfl rfl ⟨_, rfl, rfl, ((hx1.trans hx4).trans hx5).trans hx6⟩

end Go.Proofs.Ytklgmomhdlhajaa
