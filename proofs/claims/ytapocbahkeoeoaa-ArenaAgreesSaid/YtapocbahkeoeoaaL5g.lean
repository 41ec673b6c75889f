/-
  The arena of a caller is consistent; nothing leaks.
-/
import Derived.Test.YtapocbahkeoeoaaL5e
import Derived.Test.YtapocbahkeoeoaaCp
set_option linter.unusedVariables false
namespace Go.Proofs.Ytapocbahkeoeoaa
open Go.Vc

theorem OwnN.up {w : World} {lo : Nat} {v : Value} {l : List Nat} (h : OwnN w lo v l) : RdU w w.heap.size v u32c l := h.rd.up

/-- Without references nothing is in use. -/
theorem Sound.none_used {A : AR} (s : Sound A (fun _ => 0)) (i : Nat) : A.used i = false := by
  cases e : A.used i with
  | false => rfl
  | true =>
    have hr := s.reach (roots := []) (fun _ _ => rfl) _ i e (Nat.le_refl _)
    have : ∀ i, ¬ A.dump.Reach [] i := by
      intro i h
      induction h with
      | root h _ => simp at h
      | kid _ _ _ ih => exact ih
    exact absurd hr (this i)

theorem nodup_sub : ∀ (l m : List Nat), l.Nodup → (∀ x ∈ l, x ∈ m) → l.length ≤ m.length
  | [], _, _, _ => Nat.zero_le _
  | a :: l, m, hn, h => by
    obtain ⟨s, t, rfl⟩ := List.append_of_mem (h a (by simp))
    have ih := nodup_sub l (s ++ t) (List.nodup_cons.1 hn).2 (fun x hx => by
      have h1 := h x (by simp [hx])
      have h2 : x ≠ a := fun e => (List.nodup_cons.1 hn).1 (e ▸ hx)
      simp only [List.mem_append, List.mem_cons] at h1 ⊢
      rcases h1 with h1 | h1 | h1
      · exact Or.inl h1
      · exact absurd h1 h2
      · exact Or.inr h1)
    simp only [List.length_append, List.length_cons] at ih ⊢
    omega

theorem Sound.all_free {A : AR} (s : Sound A (fun _ => 0)) : A.free = A.cap := by
  have hw := s.wf
  have h1 := rel_le hw
  have h2 := hw.fr
  have h3 : A.fresh ≤ A.rel.length := by
    have := nodup_sub (List.range' 1 A.fresh) A.rel List.nodup_range' (fun i hi => by
      have := List.mem_range'_1.1 hi
      exact hw.al i (by omega) (by omega) (s.none_used i))
    simpa using this
  unfold AR.free
  omega

/-- One of the references of a list is released. -/
theorem c_relL (w : World) (lo p : Nat) (q : AP) (A : AR) (H : List Nat) (kk : Nat) (ar : ArP w lo p q A) (snd : Sound A (fun j => H.count j)) (hc30 : A.cap ≤ 30) (vr : ValR A) (los : lo ≤ w.heap.size) (hl : H.length ≤ 1000) (hkk : kk < H.length) :
    Calls Try.prog 42 [ptr p, .int .u32 (H[kk] : Int)].toArray w (Ret fun v w' => ∃ (n : Nat) (q' : AP) (B : AR), v = .tuple #[.int .i64 (n : Int), .int .i64 0] ∧ ArP w' lo p q' B ∧ (∀ b, q'.fp b → q.fp b ∨ w.heap.size ≤ b) ∧ Fr q.fp w w' ∧ Sound B (fun j => (H.take kk ++ H.drop (kk + 1)).count j) ∧ B.cap = A.cap ∧ B.free = A.free + n ∧ n ≤ 31 ∧ ValR B) := by
  have hm : H[kk] ∈ H := List.getElem_mem hkk
  have hmem : H[kk] = 0 ∨ A.used H[kk] = true := by
    rcases Nat.eq_zero_or_pos H[kk] with h0 | hp
    · exact Or.inl h0
    · right
      cases e : A.used H[kk] with
      | true => rfl
      | false =>
        have := snd.hz _ hp e
        have h2 := List.count_pos_iff.2 hm
        omega
  obtain hx0 | hx0 : H[kk] = 0 ∨ 1 ≤ H[kk] := by omega
  · rw [hx0]
    refine (p_Release0 w p).mono ?_
    rintro _ w' ⟨v, rfl, rfl, rfl⟩
    refine ⟨_, rfl, 0, q, A, rfl, ar, fun b hb => Or.inl hb, Fr.refl _ _, snd.congr fun j hj => ?_, rfl, rfl, by omega, vr⟩
    rw [count_drop H kk hkk j, hx0, List.count_singleton]
    rw [if_neg (by simp; omega)]; rfl
  · have hu : A.used H[kk] = true := by
      rcases hmem with e | e
      · omega
      · exact e
    have h30 := used_le ar.wf hu
    have hun := usedN_le A
    obtain ⟨s, B, n, hR, hS, h1, h2, h3, h4, _, h5, _⟩ := Sound.rel (3 * usedN A + 1) A (fun j => (H.take kk ++ H.drop (kk + 1)).count j) [H[kk]] (snd.congr fun j _ => count_drop H kk hkk j) (by intro k hk; simp at hk; omega) (by simp) (fun i => by
      have := edges_le ar.wf i
      have h := count_drop H kk hkk i
      have := List.count_le_length (a := i) (l := H)
      omega)
    refine (p_Release w lo p q A B H[kk] s n ar los (by omega) (by omega) hu hR (by omega) (by omega)).mono ?_
    rintro _ w' ⟨v, rfl, rfl, q', ha, hq, hf⟩
    exact ⟨_, rfl, n, q', B, rfl, ha, hq, hf, hS, h4, h3, by omega, fun k hk => by rw [(h5 k hk).2]; exact vr k (h5 k hk).1⟩

set_option maxHeartbeats 4000000 in
theorem c_LawConsistent (cap : Int) (lv : Value) (l : List Stp) (w : World) (h : Rd w 0 lv Stp.cells l) (hw : ∀ s ∈ l, s.wf) (hlen : l.length ≤ 9223372036854775807) (hcp : -9223372036854775808 ≤ cap ∧ cap ≤ 9223372036854775807) :
    Calls Try.prog 9 [.int .i64 cap, lv].toArray w (Ret fun r w' => r = .bool true ∧ Ext w w') := by
  have m1 := Int.emod_nonneg cap (show (30 : Int) ≠ 0 by omega)
  have m2 := Int.emod_lt_of_pos cap (show (0 : Int) < 30 by omega)
  refine calls_go Try.func9 rfl Try.ntmps9 (Nat.le_of_ble_eq_true rfl) ?_
  repeat (first | refine sp ?_ | (refine is_load ?_; refine ld ?_) | (refine is_store ?_; refine sr ?_) | (refine is_alloc ?_; refine al ?_) | (refine is_box ?_; refine bx ?_) | (refine isl_load ?_; refine ldl ?_) | (refine isl_store ?_; refine srl ?_) | (refine isl_alloc ?_; refine all' ?_) | (refine isl_box ?_; refine bxl ?_) | refine dr Try.follows ?_)
  refine go_call rfl rfl (c_Mod cap 30 _ hcp (by omega)) ?_
  rintro _ w0 ⟨rfl, rfl⟩
  obtain ⟨n, hn⟩ : ∃ n : Nat, 1 + cap % 30 = (n : Int) := ⟨(1 + cap % 30).toNat, by omega⟩
  repeat (first | refine sp ?_ | (refine is_load ?_; refine ld ?_) | (refine is_store ?_; refine sr ?_) | (refine is_alloc ?_; refine al ?_) | (refine is_box ?_; refine bx ?_) | (refine isl_load ?_; refine ldl ?_) | (refine isl_store ?_; refine srl ?_) | (refine isl_alloc ?_; refine all' ?_) | (refine isl_box ?_; refine bxl ?_) | refine dr Try.follows ?_)
  refine go_as 10 (u' := .int .i64 (n : Int)) rfl (by rw [hn]) ?_
  refine go_call rfl rfl (c_play n lv l _ h hw hlen (by omega) (by omega)) ?_
  rintro _ w1 ⟨c, p, q, A, hv, H, rfl, g, hcap, hH, hx⟩
  repeat (first | refine sp ?_ | (refine is_load ?_; refine ld ?_) | (refine is_store ?_; refine sr ?_) | (refine is_alloc ?_; refine al ?_) | (refine is_box ?_; refine bx ?_) | (refine isl_load ?_; refine ldl ?_) | (refine isl_store ?_; refine srl ?_) | (refine isl_alloc ?_; refine all' ?_) | (refine isl_box ?_; refine bxl ?_) | refine dr Try.follows ?_)
  have hc0 := g.hc
  refine gol_call rfl rfl (c_awake _) ?_
  rintro _ w2 ⟨rfl, hx2⟩
  have hx12 : Ext w1 w2 := Fr.trans (by (repeat (first | exact Fr.refl _ _ | assumption | apply Fr.drewN | apply Fr.alloc | (apply Fr.transF; assumption) | (refine Fr.setRow ?_ _ (by first | exact Or.inr (by (first | omega | (simp; done) | (simp; omega))) | (exact Or.inl (by first | assumption | (simp; done)))))))) hx2
  refine ⟨by show Ext _ _; exact hx12, ?_⟩
  replace g := g.ext hx12
  have hx2' := hx.trans hx12
  have hc := g.hc
  repeat (first | refine sp ?_ | (refine is_load ?_; refine ld ?_) | (refine is_store ?_; refine sr ?_) | (refine is_alloc ?_; refine al ?_) | (refine is_box ?_; refine bx ?_) | (refine isl_load ?_; refine ldl ?_) | (refine isl_store ?_; refine srl ?_) | (refine isl_alloc ?_; refine all' ?_) | (refine isl_box ?_; refine bxl ?_))
  refine gol_call rfl rfl (c_KSound w2 _ p _ q hv A _ H g.ar g.snd g.ho.up (Nat.le_refl _) (by omega) (fun x hx => by have := g.mem_le hx; omega) (fun i _ => rfl)) ?_
  rintro _ w3 ⟨rfl, hx3⟩
  refine ⟨by show Ext _ _; exact hx12.trans hx3, ?_⟩
  repeat (first | refine sp ?_ | (refine is_load ?_; refine ld ?_) | (refine is_store ?_; refine sr ?_) | (refine is_alloc ?_; refine al ?_) | (refine is_box ?_; refine bx ?_) | (refine isl_load ?_; refine ldl ?_) | (refine isl_store ?_; refine srl ?_) | (refine isl_alloc ?_; refine all' ?_) | (refine isl_box ?_; refine bxl ?_))
  exact go_ret1 rfl rfl ⟨_, rfl, rfl, hx2'.trans hx3⟩

set_option maxHeartbeats 4000000 in
theorem c_LawLeaks (cap : Int) (lv : Value) (l : List Stp) (w : World) (h : Rd w 0 lv Stp.cells l) (hw : ∀ s ∈ l, s.wf) (hlen : l.length ≤ 9223372036854775807) (hcp : -9223372036854775808 ≤ cap ∧ cap ≤ 9223372036854775807) :
    Calls Try.prog 10 [.int .i64 cap, lv].toArray w (Ret fun r w' => r = .bool true ∧ Ext w w') := by
  have m1 := Int.emod_nonneg cap (show (30 : Int) ≠ 0 by omega)
  have m2 := Int.emod_lt_of_pos cap (show (0 : Int) < 30 by omega)
  refine calls_go Try.func10 rfl Try.ntmps10 (Nat.le_of_ble_eq_true rfl) ?_
  repeat (first | refine sp ?_ | (refine is_load ?_; refine ld ?_) | (refine is_store ?_; refine sr ?_) | (refine is_alloc ?_; refine al ?_) | (refine is_box ?_; refine bx ?_) | (refine isl_load ?_; refine ldl ?_) | (refine isl_store ?_; refine srl ?_) | (refine isl_alloc ?_; refine all' ?_) | (refine isl_box ?_; refine bxl ?_) | refine dr Try.follows ?_)
  refine go_call rfl rfl (c_Mod cap 30 _ hcp (by omega)) ?_
  rintro _ w0 ⟨rfl, rfl⟩
  obtain ⟨n, hn⟩ : ∃ n : Nat, 1 + cap % 30 = (n : Int) := ⟨(1 + cap % 30).toNat, by omega⟩
  repeat (first | refine sp ?_ | (refine is_load ?_; refine ld ?_) | (refine is_store ?_; refine sr ?_) | (refine is_alloc ?_; refine al ?_) | (refine is_box ?_; refine bx ?_) | (refine isl_load ?_; refine ldl ?_) | (refine isl_store ?_; refine srl ?_) | (refine isl_alloc ?_; refine all' ?_) | (refine isl_box ?_; refine bxl ?_) | refine dr Try.follows ?_)
  refine go_as 17 (u' := .int .i64 (n : Int)) rfl (by rw [hn]) ?_
  refine go_as 5 (u' := .int .i64 (n : Int)) rfl (by rw [hn]) ?_
  refine go_call rfl rfl (c_play n lv l _ h hw hlen (by omega) (by omega)) ?_
  rintro _ w1 ⟨c, p, q, A, hv, H, rfl, g, hcap, hH, hx⟩
  repeat (first | refine sp ?_ | (refine is_load ?_; refine ld ?_) | (refine is_store ?_; refine sr ?_) | (refine is_alloc ?_; refine al ?_) | (refine is_box ?_; refine bx ?_) | (refine isl_load ?_; refine ldl ?_) | (refine isl_store ?_; refine srl ?_) | (refine isl_alloc ?_; refine all' ?_) | (refine isl_box ?_; refine bxl ?_) | refine dr Try.follows ?_)
  refine go_call rfl rfl (c_awake w1) ?_
  rintro _ w2 ⟨rfl, hx2⟩
  replace g := g.ext hx2
  have hx2' := hx.trans hx2
  have hc := g.hc
  repeat (first | refine sp ?_ | (refine is_load ?_; refine ld ?_) | (refine is_store ?_; refine sr ?_) | (refine is_alloc ?_; refine al ?_) | (refine is_box ?_; refine bx ?_) | (refine isl_load ?_; refine ldl ?_) | (refine isl_store ?_; refine srl ?_) | (refine isl_alloc ?_; refine all' ?_) | (refine isl_box ?_; refine bxl ?_) | refine dr Try.follows ?_)
  have hfree : A.free ≤ n := by have := g.ar.wf.fr; have := rel_le g.ar.wf; unfold AR.free; omega
  refine go_call rfl rfl (p_Free w2 _ p q A g.ar) ?_
  rintro _ w3 ⟨rfl, hx3⟩
  replace g := g.ext hx3
  have hx3' := hx2'.trans hx3
  clear hx hx2 hx3 hx2' hc
  have hc := g.hc
  obtain ⟨sv, cv, rfl, hcv, hr⟩ := g.ho.slice
  repeat (first | refine sp ?_ | (refine is_load ?_; refine ld ?_) | (refine is_store ?_; refine sr ?_) | (refine is_alloc ?_; refine al ?_) | (refine is_box ?_; refine bx ?_) | (refine isl_load ?_; refine ldl ?_) | (refine isl_store ?_; refine srl ?_) | (refine isl_alloc ?_; refine all' ?_) | (refine isl_box ?_; refine bxl ?_) | refine dr Try.follows ?_)
  refine go_loop (G := Nat × AP × AR × Nat) [10, 9] (fun ⟨m, _, _, f⟩ => [.int .i64 ((m : Int) - 1), .int .i64 (f : Int)]) [(5, .int .i64 (n : Int)), (6, ptr c), (8, .int .i64 ((n : Int) - (A.free : Int)))]
    (fun ⟨m, q', B, f⟩ w' => m ≤ H.length ∧ At w' c [ptr p, .slice sv H.length cv] 67 ∧ ArP w' w0.heap.size p q' B ∧ OwnN w' w0.heap.size (.slice sv H.length cv) H ∧ (∀ b, (Value.slice sv H.length cv).ownBlock = some b → ¬ q'.fp b) ∧ Sound B (fun j => (H.take m).count j) ∧ B.cap = n ∧ ValR B ∧ B.free = A.free + f ∧ (∀ b, q'.fp b → w0.heap.size ≤ b) ∧ Ext w0 w')
    (fun g => g.1) (H.length, q, A, 0) (by rfl) ⟨rfl, rfl, rfl, trivial⟩ ⟨Nat.le_refl _, hc, g.ar, g.ho, g.dis, by rw [List.take_length]; exact g.snd, hcap, g.vr, rfl, g.lof, hx3'⟩ ?_
  have hsz0 := hx3'.size
  clear hc g hx3' hr
  rintro ⟨m, q1, B, f⟩ w4 ⟨hm, hc, ha, ho, hdis, hS, hcapB, hvr, hf, hlof, hx4⟩
  have hsz4 := hx4.size
  obtain hm0 | ⟨j, hj⟩ : m = 0 ∨ ∃ j, m = j + 1 := by cases m with
    | zero => exact Or.inl rfl
    | succ j => exact Or.inr ⟨j, rfl⟩
  · subst hm0
    have hS0 : Sound B (fun _ => 0) := hS.congr fun i _ => by simp
    have hall := hS0.all_free
    repeat (first | refine sp ?_ | (refine is_load ?_; refine ld ?_) | (refine is_store ?_; refine sr ?_) | (refine is_alloc ?_; refine al ?_) | (refine is_box ?_; refine bx ?_) | (refine isl_load ?_; refine ldl ?_) | (refine isl_store ?_; refine srl ?_) | (refine isl_alloc ?_; refine all' ?_) | (refine isl_box ?_; refine bxl ?_) | refine dr Try.follows ?_)
    refine go_call rfl rfl (p_Free w4 _ p q1 B ha) ?_
    rintro _ w5 ⟨rfl, hx5⟩
    have hc5 := hc.ext hx5
    repeat (first | refine sp ?_ | (refine is_load ?_; refine ld ?_) | (refine is_store ?_; refine sr ?_) | (refine is_alloc ?_; refine al ?_) | (refine is_box ?_; refine bx ?_) | (refine isl_load ?_; refine ldl ?_) | (refine isl_store ?_; refine srl ?_) | (refine isl_alloc ?_; refine all' ?_) | (refine isl_box ?_; refine bxl ?_) | refine dr Try.follows ?_)
    refine go_call rfl rfl (c_KSound w5 _ p w5.heap.size q1 (.slice none 0 0) B (fun _ => 0) [] (ha.ext hx5) hS0 (Rd.nil w5 0 u32c).up (Nat.le_refl _) (by simp) (by simp) (fun i _ => by simp)) ?_
    rintro _ w6 ⟨rfl, hx6⟩
    repeat (first | refine sp ?_ | (refine is_load ?_; refine ld ?_) | (refine is_store ?_; refine sr ?_) | (refine is_alloc ?_; refine al ?_) | (refine is_box ?_; refine bx ?_) | (refine isl_load ?_; refine ldl ?_) | (refine isl_store ?_; refine srl ?_) | (refine isl_alloc ?_; refine all' ?_) | (refine isl_box ?_; refine bxl ?_) | refine dr Try.follows ?_)
    exact go_ret1 rfl rfl ⟨_, rfl, rfl, (hx4.trans hx5).trans hx6⟩
  · subst hj
    have hr := ho.slice
    obtain ⟨_, _, heq, _, hr⟩ := hr
    injection heq with e1 _ e2
    subst e1; subst e2
    obtain ⟨b, o, rfl, hcell⟩ := hr j (.int .u32 ((H[j] : Nat) : Int)) (by simp [show j < H.length by omega])
    have hHj : (H.take (j + 1))[j]'(by simp; omega) = H[j] := by simp
    repeat (first | refine sp ?_ | (refine is_load ?_; refine ld ?_) | (refine is_store ?_; refine sr ?_) | (refine is_alloc ?_; refine al ?_) | (refine is_box ?_; refine bx ?_) | (refine isl_load ?_; refine ldl ?_) | (refine isl_store ?_; refine srl ?_) | (refine isl_alloc ?_; refine all' ?_) | (refine isl_box ?_; refine bxl ?_))
    refine go_drawE (Fr (fun _ => False) _) 6 Try.follows (by kernel_rfl) (by kernel_rfl) (by kernel_rfl) ((Fr.refl _ _).drewN 1) ?_
    repeat (first | refine sp ?_ | (refine is_load ?_; refine ld ?_) | (refine is_store ?_; refine sr ?_) | (refine is_alloc ?_; refine al ?_) | (refine is_box ?_; refine bx ?_) | (refine isl_load ?_; refine ldl ?_) | (refine isl_store ?_; refine srl ?_) | (refine isl_alloc ?_; refine all' ?_) | (refine isl_box ?_; refine bxl ?_))
    refine go_as 54 (u' := .int .i64 (j : Int)) rfl (by congr 1; omega) ?_
    repeat (first | refine sp ?_ | (refine is_load ?_; refine ld ?_) | (refine is_store ?_; refine sr ?_) | (refine is_alloc ?_; refine al ?_) | (refine is_box ?_; refine bx ?_) | (refine isl_load ?_; refine ldl ?_) | (refine isl_store ?_; refine srl ?_) | (refine isl_alloc ?_; refine all' ?_) | (refine isl_box ?_; refine bxl ?_))
    have hxd : Ext w4 (w4.drewN 1) := (Fr.refl _ _).drewN 1
    have hrl := c_relL (w4.drewN 1) w0.heap.size p q1 B (H.take (j + 1)) j (ha.ext hxd) hS (by omega) hvr (Nat.le_trans hsz4 hxd.size) (by simp; omega) (by simp; omega)
    rw [hHj] at hrl
    refine gol_call rfl rfl hrl ?_
    rintro _ w5 ⟨n1, q2, B2, rfl, ha2, hq2, hf2, hS2, hcap2, hfr2, hn31, hvr2⟩
    refine ⟨by trivial, ?_⟩
    have hfb : f + n1 ≤ 30 := by have := ha2.wf.fr; have := rel_le ha2.wf; have : B2.free ≤ B2.cap := by unfold AR.free; omega
                                 omega
    repeat (first | refine sp ?_ | (refine is_load ?_; refine ld ?_) | (refine is_store ?_; refine sr ?_) | (refine is_alloc ?_; refine al ?_) | (refine is_box ?_; refine bx ?_) | (refine isl_load ?_; refine ldl ?_) | (refine isl_store ?_; refine srl ?_) | (refine isl_alloc ?_; refine all' ?_) | (refine isl_box ?_; refine bxl ?_))
    refine go_as 10 (u' := .int .i64 ((j : Int) - 1)) rfl (by congr 1; omega) ?_
    refine go_as 9 (u' := .int .i64 ((f + n1 : Nat) : Int)) rfl (by congr 1) ?_
    have hne : ¬ q1.fp c := ha.apart hc (by decide) (by decide) (by decide) (by decide) (by decide) (by decide)
    have ho2 : OwnN w5 w0.heap.size (Value.slice (some ⟨b, o, none⟩) H.length cv) H := Own.of_heap (ho.ext hxd) fun b hb => hf2.block b (World.ownsRow.lt (ho.ext hxd) b hb).2 (hdis b hb)
    refine go_stop (G := Nat × AP × AR × Nat) (j, q2, B2, f + n1) rfl ⟨rfl, rfl, rfl, trivial⟩ ⟨by omega, (hc.ext hxd).fr hf2 hne, ha2, ho2, ?_, ?_, by omega, hvr2, by omega, ?_, ?_⟩ (by show j < j + 1; omega)
    · intro b hb hq
      rcases hq2 b hq with e | e
      · exact hdis b hb e
      · have := (World.ownsRow.lt (ho.ext hxd) b hb).2; omega
    · refine hS2.congr fun i _ => ?_
      rw [show (H.take (j + 1)).take j ++ (H.take (j + 1)).drop (j + 1) = H.take j by rw [List.take_take, Nat.min_eq_left (by omega), List.drop_eq_nil_of_le (by simp; omega), List.append_nil]]
    · intro b hb
      rcases hq2 b hb with e | e
      · exact hlof b e
      · have := hxd.size; omega
    · exact (hx4.trans hxd).trans' hf2 fun b hb hs => by have := hlof b hs; omega

end Go.Proofs.Ytapocbahkeoeoaa
