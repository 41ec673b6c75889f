/-
  The steps of a caller of the arena.
-/
import Derived.Test.YtapocbahkeoeoaaL5c
set_option linter.unusedVariables false
namespace Go.Proofs.Ytapocbahkeoeoaa
open Go.Vc

theorem OwnN.nec {w : World} {lo b : Nat} {v : Value} {l : List Nat} {C : List Value} {T : TypeId} (h : OwnN w lo v l) (hb : At w b C T) (hT : T ≠ 27) : v.ownBlock ≠ some b := by
  intro e
  obtain ⟨_, C', hat⟩ := Own.block_lt h e
  exact hb.ne hat hT rfl

theorem count_push (H : List Nat) (i j : Nat) : (H ++ [i]).count j = addH (fun k => H.count k) i j := by
  unfold addH eq01
  rw [List.count_append, List.count_singleton]
  congr 1
  by_cases e : i = j <;> simp [e]

/-- One reference more is held: the block of the caller and its list are written. -/
theorem CliAt.pushed {w1 w2 : World} {lo c p : Nat} {q : AP} {A : AR} {hv hv' : Value} {H : List Nat} {i : Nat}
    (hc : At w1 c [ptr p, hv] 67) (ar : ArP w1 lo p q A) (ho : OwnN w1 lo hv H) (dis : ∀ b, hv.ownBlock = some b → ¬ q.fp b) (snd : Sound A (fun j => (H ++ [i]).count j)) (cap : A.cap ≤ 30) (vr : ValR A) (loc : lo ≤ c) (lof : ∀ b, q.fp b → lo ≤ b) (los : lo ≤ w1.heap.size)
    (ho' : OwnN w2 lo hv' (H ++ [i])) (hg : w1.grownBy w2 hv.ownBlock) (hbk : ∀ b, hv'.ownBlock = some b → hv.ownBlock = some b ∨ w1.heap.size ≤ b) :
    At w2 c [ptr p, hv] 67 ∧ CliAt (w2.setRow c [ptr p, hv'].toArray) lo c p q A hv' (H ++ [i]) ∧ FrL lo w1 (w2.setRow c [ptr p, hv'].toArray) := by
  have hf := Fr.of_grown hg
  have hc2 := hc.fr hf (ho.nec hc (by decide))
  have ar2 : ArP w2 lo p q A := ar.fr hf (fun b hb e => dis b e hb)
  have hne : ¬ q.fp c := ar.apart hc (by decide) (by decide) (by decide) (by decide) (by decide) (by decide)
  have hfs : Fr (fun b => b = c) w2 (w2.setRow c [ptr p, hv'].toArray) := Fr.setRow (Fr.refl _ _) _ (Or.inl rfl)
  refine ⟨hc2, ⟨hc2.setRow _, ar2.fr hfs (fun b hb e => hne (e ▸ hb)), ho'.setRow hc2 (by decide) _, fun b hb hq => ?_, snd, cap, vr, loc, lof, Nat.le_trans los (Nat.le_trans hf.size hfs.size)⟩, ?_⟩
  · rcases hbk b hb with e | e
    · exact dis b e hq
    · have := ar.lt b hq; omega
  · refine (hf.mono' fun b hb e => ?_).trans' hfs (fun b hb e => by subst e; exact loc)
    exact (World.ownsRow.lt ho b e).1

theorem usedN_le (A : AR) : usedN A ≤ A.cap + 1 := by
  have := sumTo_le (f := fun k => if A.used k = true then 1 else 0) (m := 1) (fun k => by split <;> omega) (A.cap + 1)
  unfold usedN; omega

theorem count_drop (H : List Nat) (kk : Nat) (hk : kk < H.length) (j : Nat) : H.count j = (H.take kk ++ H.drop (kk + 1)).count j + [H[kk]].count j := by
  conv => lhs; rw [← List.take_append_drop kk H, List.drop_eq_getElem_cons hk]
  rw [List.count_append, List.count_append, List.count_cons, List.count_singleton]
  omega

theorem ValR.make {A : AR} (h : ValR A) {k v : Int} {l r : Nat} (hv : -9223372036854775808 ≤ v ∧ v ≤ 9223372036854775807) : ValR (A.make k v l r) := by
  by_cases hE : A.makeE k v l r = 0
  · rw [make_eq hE]
    intro i hi
    show -9223372036854775808 ≤ (upd A.node A.top (mkN A k v l r) i).val ∧ (upd A.node A.top (mkN A k v l r) i).val ≤ 9223372036854775807
    by_cases e : i = A.top
    · subst e
      rw [upd_same]
      have : (mkN A k v l r).val = v := by unfold mkN; rw [(addC_lr A r _).2.2.2, (addC_lr A l _).2.2.2]
      rw [this]; exact hv
    · rw [upd_ne _ _ e]
      refine h i ?_
      have : upd A.used A.top true i = true := hi
      rwa [upd_ne _ _ e] at this
  · unfold AR.make; rw [if_neg hE]; exact h

/-- A reference that is held is released. -/
theorem c_relHeld (w : World) (lo c p : Nat) (q : AP) (A : AR) (hv : Value) (H : List Nat) (kk : Nat) (g : CliAt w lo c p q A hv H) (hl : H.length ≤ 1000) (hkk : kk < H.length) :
    Calls Try.prog 42 [ptr p, .int .u32 (H[kk] : Int)].toArray w (Ret fun v w' => ∃ (n : Nat) (q' : AP) (B : AR), v = .tuple #[.int .i64 (n : Int), .int .i64 0] ∧ ArP w' lo p q' B ∧ (∀ b, q'.fp b → q.fp b ∨ w.heap.size ≤ b) ∧ Fr q.fp w w' ∧ Sound B (fun j => (H.take kk ++ H.drop (kk + 1)).count j) ∧ B.cap = A.cap ∧ usedN A = usedN B + n ∧ B.free = A.free + n ∧ n ≤ 31 ∧ ValR B) := by
  have hc30 := g.cap
  obtain hx0 | hx0 : H[kk] = 0 ∨ 1 ≤ H[kk] := by omega
  · rw [hx0]
    refine (p_Release0 w p).mono ?_
    rintro _ w' ⟨v, rfl, rfl, rfl⟩
    refine ⟨_, rfl, 0, q, A, rfl, g.ar, fun b hb => Or.inl hb, Fr.refl _ _, g.snd.congr fun j hj => ?_, rfl, rfl, rfl, by omega, g.vr⟩
    rw [count_drop H kk hkk j, hx0, List.count_singleton]
    rw [if_neg (by simp; omega)]; rfl
  · have hm : H[kk] ∈ H := List.getElem_mem hkk
    have hu : A.used H[kk] = true := by
      rcases g.mem hm with e | e
      · omega
      · exact e
    have h30 := g.mem_le hm
    have hun := usedN_le A
    obtain ⟨s, B, n, hR, hS, h1, h2, h3, h4, _, h5, _⟩ := Sound.rel (3 * usedN A + 1) A (fun j => (H.take kk ++ H.drop (kk + 1)).count j) [H[kk]] (g.snd.congr fun j _ => count_drop H kk hkk j) (by intro k hk; simp at hk; omega) (by simp) (fun i => by
      have := edges_le g.ar.wf i
      have h := count_drop H kk hkk i
      have := List.count_le_length (a := i) (l := H)
      omega)
    refine (p_Release w lo p q A B H[kk] s n g.ar g.los (by omega) (by omega) hu hR (by omega) (by omega)).mono ?_
    rintro _ w' ⟨v, rfl, rfl, q', ha, hq, hf⟩
    exact ⟨_, rfl, n, q', B, rfl, ha, hq, hf, hS, h4, h1, h3, by omega, fun k hk => by rw [(h5 k hk).2]; exact g.vr k (h5 k hk).1⟩

def stepC (kd key val : Int) (l r : Nat) : List Value := [.int .i64 kd, .int .i64 key, .int .i64 val, .int .u32 (l : Int), .int .u32 (r : Int)]

def StepQ (w : World) (lo c p : Nat) (A : AR) (H : List Nat) (w' : World) : Prop :=
  ∃ q' A' hv' H', CliAt w' lo c p q' A' hv' H' ∧ A'.cap = A.cap ∧ H'.length ≤ H.length + 1 ∧ FrL lo w w'

set_option maxHeartbeats 4000000 in
theorem c_step (w : World) (lo c p : Nat) (q : AP) (A : AR) (hv : Value) (H : List Nat) (kd key val : Int) (l r : Nat) (h : CliAt w lo c p q A hv H) (hl : H.length ≤ 1000) (hk : -9223372036854775808 ≤ kd ∧ kd ≤ 9223372036854775807) (hv1 : -9223372036854775808 ≤ val ∧ val ≤ 9223372036854775807) (h1 : l < 4294967296) (h2 : r < 4294967296) :
    Calls Try.prog 75 [ptr c, .agg (stepC kd key val l r).toArray].toArray w (Ret fun v w' => v = .bool true ∧ StepQ w lo c p A H w') := by
  have m1 := Int.emod_nonneg kd (show (6 : Int) ≠ 0 by omega)
  have m2 := Int.emod_lt_of_pos kd (show (0 : Int) < 6 by omega)
  unfold stepC
  refine calls_go Try.func75 rfl Try.ntmps75 (Nat.le_of_ble_eq_true rfl) ?_
  repeat (first | refine sp ?_ | (refine is_load ?_; refine ld ?_) | (refine is_store ?_; refine sr ?_) | (refine is_alloc ?_; refine al ?_) | (refine is_box ?_; refine bx ?_) | (refine isl_load ?_; refine ldl ?_) | (refine isl_store ?_; refine srl ?_) | (refine isl_alloc ?_; refine all' ?_) | (refine isl_box ?_; refine bxl ?_) | refine dr Try.follows ?_)
  refine go_call rfl rfl (c_Mod kd 6 _ hk (by omega)) ?_
  rintro _ w1 ⟨rfl, rfl⟩
  repeat (first | refine sp ?_ | (refine is_load ?_; refine ld ?_) | (refine is_store ?_; refine sr ?_) | (refine is_alloc ?_; refine al ?_) | (refine is_box ?_; refine bx ?_) | (refine isl_load ?_; refine ldl ?_) | (refine isl_store ?_; refine srl ?_) | (refine isl_alloc ?_; refine all' ?_) | (refine isl_box ?_; refine bxl ?_) | refine dr Try.follows ?_)
  by_cases e3 : kd % 6 = 3
  · repeat (first | refine sp ?_ | (refine is_load ?_; refine ld ?_) | (refine is_store ?_; refine sr ?_) | (refine is_alloc ?_; refine al ?_) | (refine is_box ?_; refine bx ?_) | (refine isl_load ?_; refine ldl ?_) | (refine isl_store ?_; refine srl ?_) | (refine isl_alloc ?_; refine all' ?_) | (refine isl_box ?_; refine bxl ?_) | refine dr Try.follows ?_)
    refine go_call rfl rfl (c_pick _ lo c p q A hv H l (h.ext (by (repeat (first | exact Fr.refl _ _ | assumption | apply Fr.drewN | apply Fr.alloc | (apply Fr.transF; assumption) | (refine Fr.setRow ?_ _ (by first | exact Or.inr (by (first | omega | (simp; done) | (simp; omega))) | (exact Or.inl (by first | assumption | (simp; done))))))))) hl h1) ?_
    rintro _ w2 ⟨rfl, hx2⟩
    have hx2' : Ext w w2 := Fr.trans ((Fr.refl _ _).alloc _) hx2
    have g := h.ext hx2'
    have hc2 := g.hc
    have hi : pickH H l = 0 ∨ A.used (pickH H l) = true := by
      rcases pickH_mem H l with e | e
      · exact Or.inl e
      · exact g.mem e
    have hi30 : pickH H l ≤ 30 := by
      rcases pickH_mem H l with e | e
      · omega
      · exact g.mem_le e
    generalize pickH H l = i at hi hi30
    repeat (first | refine sp ?_ | (refine is_load ?_; refine ld ?_) | (refine is_store ?_; refine sr ?_) | (refine is_alloc ?_; refine al ?_) | (refine is_box ?_; refine bx ?_) | (refine isl_load ?_; refine ldl ?_) | (refine isl_store ?_; refine srl ?_) | (refine isl_alloc ?_; refine all' ?_) | (refine isl_box ?_; refine bxl ?_) | refine dr Try.follows ?_)
    refine go_call rfl rfl (p_Retain w2 lo p q A i g.ar (by omega)) ?_
    rintro _ w3 ⟨rfl, ha3, hf3⟩
    have hne : ¬ q.fp c := g.ar.apart g.hc (by decide) (by decide) (by decide) (by decide) (by decide) (by decide)
    have hc3 := g.hc.fr hf3 hne
    have ho3 : OwnN w3 lo hv H := Own.of_heap g.ho fun b hb => hf3.block b (World.ownsRow.lt g.ho b hb).2 (g.dis b hb)
    rw [show A.retainE i = 0 by unfold AR.retainE; rw [if_pos hi]]
    have hsnd : Sound (A.retain i) (fun j => (H ++ [i]).count j) := by
      rcases Nat.eq_zero_or_pos i with rfl | hp
      · rw [show A.retain 0 = A by simp [AR.retain]]
        refine g.snd.congr fun j hj => ?_
        rw [count_push]; unfold addH eq01; rw [if_neg (by omega)]; rfl
      · have hu : A.used i = true := by rcases hi with e | e; · omega
                                        · exact e
        rw [show A.retain i = A.inc i by unfold AR.retain; rw [if_pos ⟨by omega, hu⟩]]
        refine (g.snd.inc hu ?_).congr fun j hj => (count_push H i j).symm
        have := List.count_le_length (a := i) (l := H); omega
    have hcapR : (A.retain i).cap = A.cap := by unfold AR.retain; split <;> rfl
    repeat (first | refine sp ?_ | (refine is_load ?_; refine ld ?_) | (refine is_store ?_; refine sr ?_) | (refine is_alloc ?_; refine al ?_) | (refine is_box ?_; refine bx ?_) | (refine isl_load ?_; refine ldl ?_) | (refine isl_store ?_; refine srl ?_) | (refine isl_alloc ?_; refine all' ?_) | (refine isl_box ?_; refine bxl ?_) | refine dr Try.follows ?_)
    refine go_pushG (by decide) rfl rfl rfl rfl ho3 rfl (one_u32 _) (by omega) (by simp [maxLen]; omega) (by omega) (Nat.le_trans g.los hf3.size) ?_
    intro v' w4 ho4 hg4 hbk4
    obtain ⟨sv', cv', rfl, _, _⟩ := ho4.slice
    obtain ⟨hc4, hC, hF⟩ := CliAt.pushed hc3 ha3 ho3 g.dis hsnd (by rw [hcapR]; exact g.cap) (by unfold AR.retain; split <;> exact g.vr) g.loc g.lof (Nat.le_trans g.los hf3.size) (by simpa [OwnN] using ho4) hg4 hbk4
    repeat (first | refine sp ?_ | (refine is_load ?_; refine ld ?_) | (refine is_store ?_; refine sr ?_) | (refine is_alloc ?_; refine al ?_) | (refine is_box ?_; refine bx ?_) | (refine isl_load ?_; refine ldl ?_) | (refine isl_store ?_; refine srl ?_) | (refine isl_alloc ?_; refine all' ?_) | (refine isl_box ?_; refine bxl ?_) | refine dr Try.follows ?_)
    refine go_ret1 rfl rfl ⟨_, rfl, rfl, q, _, _, H ++ [i], hC, hcapR, by simp, ?_⟩
    exact (Fr.trans' (Fr.of_ext hx2') hf3 (fun b _ e => g.lof b e)).trans hF
  by_cases e4 : kd % 6 = 4 ∨ kd % 6 = 5
  · have hS : kd % 6 = 4 ∨ kd % 6 = 5 := e4
    have hc := h.hc
    have g := h.ext (w' := w.alloc (.cells (stepC kd key val l r).toArray 77)) (by (repeat (first | exact Fr.refl _ _ | assumption | apply Fr.drewN | apply Fr.alloc | (apply Fr.transF; assumption) | (refine Fr.setRow ?_ _ (by first | exact Or.inr (by (first | omega | (simp; done) | (simp; omega))) | (exact Or.inl (by first | assumption | (simp; done))))))))
    have hc1 := g.hc
    unfold stepC at g hc1
    obtain ⟨sv, cv, rfl, hcv, hr⟩ := g.ho.slice
    rcases e4 with e4 | e4
    · skip
      by_cases h0 : H.length = 0
      · repeat (first | refine sp ?_ | (refine is_load ?_; refine ld ?_) | (refine is_store ?_; refine sr ?_) | (refine is_alloc ?_; refine al ?_) | (refine is_box ?_; refine bx ?_) | (refine isl_load ?_; refine ldl ?_) | (refine isl_store ?_; refine srl ?_) | (refine isl_alloc ?_; refine all' ?_) | (refine isl_box ?_; refine bxl ?_) | refine dr Try.follows ?_)
        refine go_ret1 rfl rfl ⟨_, rfl, rfl, q, A, _, H, g, rfl, by omega, by (repeat (first | exact Fr.refl _ _ | assumption | apply Fr.drewN | apply Fr.alloc | (apply Fr.transF; assumption) | (refine Fr.setRow ?_ _ (by first | exact Or.inr (by (first | omega | (simp; done) | (simp; omega))) | (exact Or.inl (by first | assumption | (simp; done)))))))⟩
      have hkk : l % H.length < H.length := Nat.mod_lt _ (by omega)
      obtain ⟨b0, o0, hsv, hcell⟩ := hr (l % H.length) (.int .u32 ((H[l % H.length] : Nat) : Int)) (by simp [hkk])
      subst hsv
      repeat (first | refine sp ?_ | (refine is_load ?_; refine ld ?_) | (refine is_store ?_; refine sr ?_) | (refine is_alloc ?_; refine al ?_) | (refine is_box ?_; refine bx ?_) | (refine isl_load ?_; refine ldl ?_) | (refine isl_store ?_; refine srl ?_) | (refine isl_alloc ?_; refine all' ?_) | (refine isl_box ?_; refine bxl ?_))
      refine dr Try.follows ?_
      repeat (first | refine sp ?_ | (refine is_load ?_; refine ld ?_) | (refine is_store ?_; refine sr ?_) | (refine is_alloc ?_; refine al ?_) | (refine is_box ?_; refine bx ?_) | (refine isl_load ?_; refine ldl ?_) | (refine isl_store ?_; refine srl ?_) | (refine isl_alloc ?_; refine all' ?_) | (refine isl_box ?_; refine bxl ?_))
      refine go_as 7 (u' := .int .i64 ((l % H.length : Nat) : Int)) rfl (by simp) ?_
      refine go_drawE (Fr (fun _ => False) _) 6 Try.follows (by kernel_rfl) (by kernel_rfl) (by kernel_rfl) ((Fr.refl _ _).drewN 1) ?_
      repeat (first | refine sp ?_ | (refine is_load ?_; refine ld ?_) | (refine is_store ?_; refine sr ?_) | (refine is_alloc ?_; refine al ?_) | (refine is_box ?_; refine bx ?_) | (refine isl_load ?_; refine ldl ?_) | (refine isl_store ?_; refine srl ?_) | (refine isl_alloc ?_; refine all' ?_) | (refine isl_box ?_; refine bxl ?_))
      have hxd : Ext w (((w.alloc (.cells #[.int .i64 kd, .int .i64 key, .int .i64 val, .int .u32 (l : Int), .int .u32 (r : Int)] 77)).drewN 1).drewN 1) := by (repeat (first | exact Fr.refl _ _ | assumption | apply Fr.drewN | apply Fr.alloc | (apply Fr.transF; assumption) | (refine Fr.setRow ?_ _ (by first | exact Or.inr (by (first | omega | (simp; done) | (simp; omega))) | (exact Or.inl (by first | assumption | (simp; done)))))))
      have g := h.ext hxd
      generalize (((w.alloc (.cells #[.int .i64 kd, .int .i64 key, .int .i64 val, .int .u32 (l : Int), .int .u32 (r : Int)] 77)).drewN 1).drewN 1) = w1 at *
      generalize l % H.length = kk at *
      refine gol_call rfl rfl (c_relHeld w1 lo c p q A _ H kk g hl hkk) ?_
      rintro _ w2 ⟨n, q2, B, rfl, ha2, hq2, hf2, hs2, hcap2, _, _, hn31, hvr2⟩
      refine ⟨by trivial, ?_⟩
      have hne : ¬ q.fp c := g.ar.apart g.hc (by decide) (by decide) (by decide) (by decide) (by decide) (by decide)
      have hc2 := g.hc.fr hf2 hne
      have ho2 : OwnN w2 lo (Value.slice (some ⟨b0, o0, none⟩) H.length cv) H := Own.of_heap g.ho fun b hb => hf2.block b (World.ownsRow.lt g.ho b hb).2 (g.dis b hb)
      obtain ⟨_, _, heq, hcv2, hr2⟩ := ho2.slice
      injection heq with e1 _ e2
      subst e1; subst e2
      repeat (first | refine sp ?_ | (refine is_load ?_; refine ld ?_) | (refine is_store ?_; refine sr ?_) | (refine is_alloc ?_; refine al ?_) | (refine is_box ?_; refine bx ?_) | (refine isl_load ?_; refine ldl ?_) | (refine isl_store ?_; refine srl ?_) | (refine isl_alloc ?_; refine all' ?_) | (refine isl_box ?_; refine bxl ?_) | refine go_drawE (Fr (fun _ => False) _) 1 Try.follows (by kernel_rfl) (by kernel_rfl) (by kernel_rfl) ((Fr.refl _ _).drewN 1) ?_)
      refine gol_p rfl rfl (pr_sl (lo := 0) (hi := kk) (by decide) rfl rfl ⟨_, _, rfl, rfl⟩ (by omega) (by omega)) ?_
      have hrd := (Fr.refl (fun _ => False) w2).drewN 1
      have hlos2 : lo ≤ w2.heap.size := Nat.le_trans g.los hf2.size
      refine gol_appendG (r := kk) (lo := w2.heap.size) (q := 0) (xs := []) (by decide) rfl rfl rfl (Own.nil _ _ _ _) ((RdC.cut hr2 (lo := 0) (hi := kk) (by omega)).ext hrd) (by simp; omega) (by intro u hu; simp at hu; obtain ⟨_, _, rfl⟩ := List.mem_map.1 (List.mem_of_mem_take hu); rfl) (by simp [maxLen]; omega) (by omega) (by simp) ?_
      intro v3 w3 ho3 hg3 _
      have hx3 : Ext w2 w3 := ext_grown hrd (Nat.le_refl _) (Own.nil _ w2.heap.size 27 1) hg3
      have hr3 := hr2.ext hx3
      have hc3 := hc2.ext hx3
      refine ⟨hx3, ?_⟩
      repeat (first | refine sp ?_ | (refine is_load ?_; refine ld ?_) | (refine is_store ?_; refine sr ?_) | (refine is_alloc ?_; refine al ?_) | (refine is_box ?_; refine bx ?_) | (refine isl_load ?_; refine ldl ?_) | (refine isl_store ?_; refine srl ?_) | (refine isl_alloc ?_; refine all' ?_) | (refine isl_box ?_; refine bxl ?_) | refine go_drawE (Fr (fun _ => False) _) 1 Try.follows (by kernel_rfl) (by kernel_rfl) (by kernel_rfl) ((Fr.refl _ _).drewN 1) ?_)
      refine gol_p rfl rfl (pr_sl (lo := kk + 1) (hi := H.length) (by decide) rfl ⟨_, _, rfl, by simp⟩ rfl (by omega) (by omega)) ?_
      have hl3 := hx3.size
      refine gol_appendG (r := H.length - (kk + 1)) (by decide) rfl rfl rfl ho3 (RdC.cut hr3 (lo := kk + 1) (hi := H.length) (by omega)) (by simp) (by intro u hu; obtain ⟨_, _, rfl⟩ := List.mem_map.1 (List.mem_of_mem_take (List.mem_of_mem_drop hu)); rfl) (by simp [maxLen]; omega) (by omega) (by omega) ?_
      intro v4 w4 ho4 hg4 hb4
      have hx4 : Ext w2 w4 := ext_grown hx3 (Nat.le_refl _) ho3 hg4
      have hc4 := hc2.ext hx4
      obtain ⟨sv4, cv4, rfl, _, _⟩ := ho4.slice
      refine ⟨hx4, ?_⟩
      repeat (first | refine sp ?_ | (refine is_load ?_; refine ld ?_) | (refine is_store ?_; refine sr ?_) | (refine is_alloc ?_; refine al ?_) | (refine is_box ?_; refine bx ?_) | (refine isl_load ?_; refine ldl ?_) | (refine isl_store ?_; refine srl ?_) | (refine isl_alloc ?_; refine all' ?_) | (refine isl_box ?_; refine bxl ?_) | refine go_drawE (Fr (fun _ => False) _) 1 Try.follows (by kernel_rfl) (by kernel_rfl) (by kernel_rfl) ((Fr.refl _ _).drewN 1) ?_)
      have hH : ([] : List Value) ++ ((H.map fun (i : Nat) => Value.int .u32 (i : Int)).take kk).drop 0 ++ ((H.map fun (i : Nat) => Value.int .u32 (i : Int)).take H.length).drop (kk + 1) = (H.take kk ++ H.drop (kk + 1)).map fun (i : Nat) => Value.int .u32 (i : Int) := by
        have ht : (H.map fun (i : Nat) => Value.int .u32 (i : Int)).take H.length = H.map fun (i : Nat) => Value.int .u32 (i : Int) := List.take_of_length_le (by simp)
        rw [List.nil_append, List.drop_zero, List.map_append, List.map_take, List.map_drop, ht]
      have hlen : (H.take kk ++ H.drop (kk + 1)).length = 0 + kk + (H.length - (kk + 1)) := by simp; omega
      have hO : OwnN w4 w2.heap.size (.slice sv4 (0 + kk + (H.length - (kk + 1))) cv4) (H.take kk ++ H.drop (kk + 1)) := by
        unfold OwnN
        rw [hlen, ← hH]; exact ho4
      have hne2 : ¬ q2.fp c := ha2.apart hc2 (by decide) (by decide) (by decide) (by decide) (by decide) (by decide)
      have hS : Fr (fun b => b = c) w4 (w4.setRow c [ptr p, Value.slice sv4 (0 + kk + (H.length - (kk + 1))) cv4].toArray) := Fr.setRow (Fr.refl _ _) _ (Or.inl rfl)
      refine go_ret1 rfl rfl ⟨_, rfl, rfl, q2, B, _, H.take kk ++ H.drop (kk + 1), ⟨hc4.setRow _, (ha2.ext hx4).fr hS (fun b hb e => hne2 (e ▸ hb)), (hO.mono hlos2).setRow hc4 (by decide) _, fun b hb hq => ?_, hs2, by rw [hcap2]; exact g.cap, hvr2, g.loc, fun b hb => ?_, Nat.le_trans hlos2 (Nat.le_trans hx4.size hS.size)⟩, hcap2, by omega, ?_⟩
      · have := (World.ownsRow.lt hO b hb).1
        have := ha2.lt b hq
        omega
      · rcases hq2 b hb with e | e
        · exact g.lof b e
        · have := g.los; omega
      · exact ((Fr.of_ext (hxd)).trans (hf2.mono g.lof)).trans ((Fr.of_ext hx4).trans (hS.mono fun b e => by rw [e]; exact g.loc))
    · skip
      by_cases h0 : H.length = 0
      · repeat (first | refine sp ?_ | (refine is_load ?_; refine ld ?_) | (refine is_store ?_; refine sr ?_) | (refine is_alloc ?_; refine al ?_) | (refine is_box ?_; refine bx ?_) | (refine isl_load ?_; refine ldl ?_) | (refine isl_store ?_; refine srl ?_) | (refine isl_alloc ?_; refine all' ?_) | (refine isl_box ?_; refine bxl ?_) | refine dr Try.follows ?_)
        refine go_ret1 rfl rfl ⟨_, rfl, rfl, q, A, _, H, g, rfl, by omega, by (repeat (first | exact Fr.refl _ _ | assumption | apply Fr.drewN | apply Fr.alloc | (apply Fr.transF; assumption) | (refine Fr.setRow ?_ _ (by first | exact Or.inr (by (first | omega | (simp; done) | (simp; omega))) | (exact Or.inl (by first | assumption | (simp; done)))))))⟩
      have hkk : l % H.length < H.length := Nat.mod_lt _ (by omega)
      obtain ⟨b0, o0, hsv, hcell⟩ := hr (l % H.length) (.int .u32 ((H[l % H.length] : Nat) : Int)) (by simp [hkk])
      subst hsv
      repeat (first | refine sp ?_ | (refine is_load ?_; refine ld ?_) | (refine is_store ?_; refine sr ?_) | (refine is_alloc ?_; refine al ?_) | (refine is_box ?_; refine bx ?_) | (refine isl_load ?_; refine ldl ?_) | (refine isl_store ?_; refine srl ?_) | (refine isl_alloc ?_; refine all' ?_) | (refine isl_box ?_; refine bxl ?_))
      refine dr Try.follows ?_
      repeat (first | refine sp ?_ | (refine is_load ?_; refine ld ?_) | (refine is_store ?_; refine sr ?_) | (refine is_alloc ?_; refine al ?_) | (refine is_box ?_; refine bx ?_) | (refine isl_load ?_; refine ldl ?_) | (refine isl_store ?_; refine srl ?_) | (refine isl_alloc ?_; refine all' ?_) | (refine isl_box ?_; refine bxl ?_))
      refine go_as 7 (u' := .int .i64 ((l % H.length : Nat) : Int)) rfl (by simp) ?_
      refine go_drawE (Fr (fun _ => False) _) 6 Try.follows (by kernel_rfl) (by kernel_rfl) (by kernel_rfl) ((Fr.refl _ _).drewN 1) ?_
      repeat (first | refine sp ?_ | (refine is_load ?_; refine ld ?_) | (refine is_store ?_; refine sr ?_) | (refine is_alloc ?_; refine al ?_) | (refine is_box ?_; refine bx ?_) | (refine isl_load ?_; refine ldl ?_) | (refine isl_store ?_; refine srl ?_) | (refine isl_alloc ?_; refine all' ?_) | (refine isl_box ?_; refine bxl ?_))
      have hxd : Ext w (((w.alloc (.cells #[.int .i64 kd, .int .i64 key, .int .i64 val, .int .u32 (l : Int), .int .u32 (r : Int)] 77)).drewN 1).drewN 1) := by (repeat (first | exact Fr.refl _ _ | assumption | apply Fr.drewN | apply Fr.alloc | (apply Fr.transF; assumption) | (refine Fr.setRow ?_ _ (by first | exact Or.inr (by (first | omega | (simp; done) | (simp; omega))) | (exact Or.inl (by first | assumption | (simp; done)))))))
      have g := h.ext hxd
      generalize (((w.alloc (.cells #[.int .i64 kd, .int .i64 key, .int .i64 val, .int .u32 (l : Int), .int .u32 (r : Int)] 77)).drewN 1).drewN 1) = w1 at *
      generalize l % H.length = kk at *
      refine gol_call rfl rfl (c_relHeld w1 lo c p q A _ H kk g hl hkk) ?_
      rintro _ w2 ⟨n, q2, B, rfl, ha2, hq2, hf2, hs2, hcap2, _, _, hn31, hvr2⟩
      refine ⟨by trivial, ?_⟩
      have hne : ¬ q.fp c := g.ar.apart g.hc (by decide) (by decide) (by decide) (by decide) (by decide) (by decide)
      have hc2 := g.hc.fr hf2 hne
      have ho2 : OwnN w2 lo (Value.slice (some ⟨b0, o0, none⟩) H.length cv) H := Own.of_heap g.ho fun b hb => hf2.block b (World.ownsRow.lt g.ho b hb).2 (g.dis b hb)
      obtain ⟨_, _, heq, hcv2, hr2⟩ := ho2.slice
      injection heq with e1 _ e2
      subst e1; subst e2
      repeat (first | refine sp ?_ | (refine is_load ?_; refine ld ?_) | (refine is_store ?_; refine sr ?_) | (refine is_alloc ?_; refine al ?_) | (refine is_box ?_; refine bx ?_) | (refine isl_load ?_; refine ldl ?_) | (refine isl_store ?_; refine srl ?_) | (refine isl_alloc ?_; refine all' ?_) | (refine isl_box ?_; refine bxl ?_) | refine go_drawE (Fr (fun _ => False) _) 1 Try.follows (by kernel_rfl) (by kernel_rfl) (by kernel_rfl) ((Fr.refl _ _).drewN 1) ?_)
      refine gol_p rfl rfl (pr_sl (lo := 0) (hi := kk) (by decide) rfl rfl ⟨_, _, rfl, rfl⟩ (by omega) (by omega)) ?_
      have hrd := (Fr.refl (fun _ => False) w2).drewN 1
      have hlos2 : lo ≤ w2.heap.size := Nat.le_trans g.los hf2.size
      refine gol_appendG (r := kk) (lo := w2.heap.size) (q := 0) (xs := []) (by decide) rfl rfl rfl (Own.nil _ _ _ _) ((RdC.cut hr2 (lo := 0) (hi := kk) (by omega)).ext hrd) (by simp; omega) (by intro u hu; simp at hu; obtain ⟨_, _, rfl⟩ := List.mem_map.1 (List.mem_of_mem_take hu); rfl) (by simp [maxLen]; omega) (by omega) (by simp) ?_
      intro v3 w3 ho3 hg3 _
      have hx3 : Ext w2 w3 := ext_grown hrd (Nat.le_refl _) (Own.nil _ w2.heap.size 27 1) hg3
      have hr3 := hr2.ext hx3
      have hc3 := hc2.ext hx3
      refine ⟨hx3, ?_⟩
      repeat (first | refine sp ?_ | (refine is_load ?_; refine ld ?_) | (refine is_store ?_; refine sr ?_) | (refine is_alloc ?_; refine al ?_) | (refine is_box ?_; refine bx ?_) | (refine isl_load ?_; refine ldl ?_) | (refine isl_store ?_; refine srl ?_) | (refine isl_alloc ?_; refine all' ?_) | (refine isl_box ?_; refine bxl ?_) | refine go_drawE (Fr (fun _ => False) _) 1 Try.follows (by kernel_rfl) (by kernel_rfl) (by kernel_rfl) ((Fr.refl _ _).drewN 1) ?_)
      refine gol_p rfl rfl (pr_sl (lo := kk + 1) (hi := H.length) (by decide) rfl ⟨_, _, rfl, by simp⟩ rfl (by omega) (by omega)) ?_
      have hl3 := hx3.size
      refine gol_appendG (r := H.length - (kk + 1)) (by decide) rfl rfl rfl ho3 (RdC.cut hr3 (lo := kk + 1) (hi := H.length) (by omega)) (by simp) (by intro u hu; obtain ⟨_, _, rfl⟩ := List.mem_map.1 (List.mem_of_mem_take (List.mem_of_mem_drop hu)); rfl) (by simp [maxLen]; omega) (by omega) (by omega) ?_
      intro v4 w4 ho4 hg4 hb4
      have hx4 : Ext w2 w4 := ext_grown hx3 (Nat.le_refl _) ho3 hg4
      have hc4 := hc2.ext hx4
      obtain ⟨sv4, cv4, rfl, _, _⟩ := ho4.slice
      refine ⟨hx4, ?_⟩
      repeat (first | refine sp ?_ | (refine is_load ?_; refine ld ?_) | (refine is_store ?_; refine sr ?_) | (refine is_alloc ?_; refine al ?_) | (refine is_box ?_; refine bx ?_) | (refine isl_load ?_; refine ldl ?_) | (refine isl_store ?_; refine srl ?_) | (refine isl_alloc ?_; refine all' ?_) | (refine isl_box ?_; refine bxl ?_) | refine go_drawE (Fr (fun _ => False) _) 1 Try.follows (by kernel_rfl) (by kernel_rfl) (by kernel_rfl) ((Fr.refl _ _).drewN 1) ?_)
      have hH : ([] : List Value) ++ ((H.map fun (i : Nat) => Value.int .u32 (i : Int)).take kk).drop 0 ++ ((H.map fun (i : Nat) => Value.int .u32 (i : Int)).take H.length).drop (kk + 1) = (H.take kk ++ H.drop (kk + 1)).map fun (i : Nat) => Value.int .u32 (i : Int) := by
        have ht : (H.map fun (i : Nat) => Value.int .u32 (i : Int)).take H.length = H.map fun (i : Nat) => Value.int .u32 (i : Int) := List.take_of_length_le (by simp)
        rw [List.nil_append, List.drop_zero, List.map_append, List.map_take, List.map_drop, ht]
      have hlen : (H.take kk ++ H.drop (kk + 1)).length = 0 + kk + (H.length - (kk + 1)) := by simp; omega
      have hO : OwnN w4 w2.heap.size (.slice sv4 (0 + kk + (H.length - (kk + 1))) cv4) (H.take kk ++ H.drop (kk + 1)) := by
        unfold OwnN
        rw [hlen, ← hH]; exact ho4
      have hne2 : ¬ q2.fp c := ha2.apart hc2 (by decide) (by decide) (by decide) (by decide) (by decide) (by decide)
      have hS : Fr (fun b => b = c) w4 (w4.setRow c [ptr p, Value.slice sv4 (0 + kk + (H.length - (kk + 1))) cv4].toArray) := Fr.setRow (Fr.refl _ _) _ (Or.inl rfl)
      refine go_ret1 rfl rfl ⟨_, rfl, rfl, q2, B, _, H.take kk ++ H.drop (kk + 1), ⟨hc4.setRow _, (ha2.ext hx4).fr hS (fun b hb e => hne2 (e ▸ hb)), (hO.mono hlos2).setRow hc4 (by decide) _, fun b hb hq => ?_, hs2, by rw [hcap2]; exact g.cap, hvr2, g.loc, fun b hb => ?_, Nat.le_trans hlos2 (Nat.le_trans hx4.size hS.size)⟩, hcap2, by omega, ?_⟩
      · have := (World.ownsRow.lt hO b hb).1
        have := ha2.lt b hq
        omega
      · rcases hq2 b hb with e | e
        · exact g.lof b e
        · have := g.los; omega
      · exact ((Fr.of_ext (hxd)).trans (hf2.mono g.lof)).trans ((Fr.of_ext hx4).trans (hS.mono fun b e => by rw [e]; exact g.loc))
  · have hx1 : Ext w (w.alloc (.cells (stepC kd key val l r).toArray 77)) := by (repeat (first | exact Fr.refl _ _ | assumption | apply Fr.drewN | apply Fr.alloc | (apply Fr.transF; assumption) | (refine Fr.setRow ?_ _ (by first | exact Or.inr (by (first | omega | (simp; done) | (simp; omega))) | (exact Or.inl (by first | assumption | (simp; done)))))))
    unfold stepC at hx1
    have hc1 := h.hc.ext hx1
    repeat (first | refine sp ?_ | (refine is_load ?_; refine ld ?_) | (refine is_store ?_; refine sr ?_) | (refine is_alloc ?_; refine al ?_) | (refine is_box ?_; refine bx ?_) | (refine isl_load ?_; refine ldl ?_) | (refine isl_store ?_; refine srl ?_) | (refine isl_alloc ?_; refine all' ?_) | (refine isl_box ?_; refine bxl ?_))
    refine go_drawE (Fr (fun _ => False) _) 6 Try.follows (by kernel_rfl) (by kernel_rfl) (by kernel_rfl) ((Fr.refl _ _).drewN 1) ?_
    repeat (first | refine sp ?_ | (refine is_load ?_; refine ld ?_) | (refine is_store ?_; refine sr ?_) | (refine is_alloc ?_; refine al ?_) | (refine is_box ?_; refine bx ?_) | (refine isl_load ?_; refine ldl ?_) | (refine isl_store ?_; refine srl ?_) | (refine isl_alloc ?_; refine all' ?_) | (refine isl_box ?_; refine bxl ?_))
    refine gol_call rfl rfl (c_pick _ lo c p q A hv H l (h.ext (by (repeat (first | exact Fr.refl _ _ | assumption | apply Fr.drewN | apply Fr.alloc | (apply Fr.transF; assumption) | (refine Fr.setRow ?_ _ (by first | exact Or.inr (by (first | omega | (simp; done) | (simp; omega))) | (exact Or.inl (by first | assumption | (simp; done))))))))) hl h1) ?_
    rintro _ w2 ⟨rfl, hx2⟩
    refine ⟨by show Ext _ _; (repeat (first | exact Fr.refl _ _ | assumption | apply Fr.drewN | apply Fr.alloc | (apply Fr.transF; assumption) | (refine Fr.setRow ?_ _ (by first | exact Or.inr (by (first | omega | (simp; done) | (simp; omega))) | (exact Or.inl (by first | assumption | (simp; done))))))), ?_⟩
    have hx2' : Ext w w2 := by (repeat (first | exact Fr.refl _ _ | assumption | apply Fr.drewN | apply Fr.alloc | (apply Fr.transF; assumption) | (refine Fr.setRow ?_ _ (by first | exact Or.inr (by (first | omega | (simp; done) | (simp; omega))) | (exact Or.inl (by first | assumption | (simp; done)))))))
    repeat (first | refine sp ?_ | (refine is_load ?_; refine ld ?_) | (refine is_store ?_; refine sr ?_) | (refine is_alloc ?_; refine al ?_) | (refine is_box ?_; refine bx ?_) | (refine isl_load ?_; refine ldl ?_) | (refine isl_store ?_; refine srl ?_) | (refine isl_alloc ?_; refine all' ?_) | (refine isl_box ?_; refine bxl ?_))
    refine gol_call rfl rfl (c_pick _ lo c p q A hv H r (h.ext (by (repeat (first | exact Fr.refl _ _ | assumption | apply Fr.drewN | apply Fr.alloc | (apply Fr.transF; assumption) | (refine Fr.setRow ?_ _ (by first | exact Or.inr (by (first | omega | (simp; done) | (simp; omega))) | (exact Or.inl (by first | assumption | (simp; done))))))))) hl h2) ?_
    rintro _ w3 ⟨rfl, hx3⟩
    have hx3' : Ext w w3 := hx2'.trans hx3
    refine ⟨(Fr.trans ((Fr.refl (fun _ => False) _).drewN 1) hx2).trans hx3, ?_⟩
    have g := h.ext hx3'
    have hpk : ∀ x, (pickH H x = 0 ∨ A.used (pickH H x) = true) ∧ pickH H x ≤ 30 := by
      intro x
      rcases pickH_mem H x with e | e
      · exact ⟨Or.inl e, by omega⟩
      · exact ⟨g.mem e, g.mem_le e⟩
    obtain ⟨hi, hi30⟩ := hpk l
    obtain ⟨hj, hj30⟩ := hpk r
    generalize pickH H l = i at hi hi30
    generalize pickH H r = j at hj hj30
    repeat (first | refine sp ?_ | (refine is_load ?_; refine ld ?_) | (refine is_store ?_; refine sr ?_) | (refine is_alloc ?_; refine al ?_) | (refine is_box ?_; refine bx ?_) | (refine isl_load ?_; refine ldl ?_) | (refine isl_store ?_; refine srl ?_) | (refine isl_alloc ?_; refine all' ?_) | (refine isl_box ?_; refine bxl ?_))
    refine gol_call rfl rfl (p_Make w3 lo p q A key val i j g.ar (by omega) (by omega)) ?_
    rintro _ w4 ⟨rfl, q4, ha4, hq4, hf4⟩
    refine ⟨by trivial, ?_⟩
    have hne : ¬ q.fp c := g.ar.apart g.hc (by decide) (by decide) (by decide) (by decide) (by decide) (by decide)
    have hc4 := g.hc.fr hf4 hne
    have ho4 : OwnN w4 lo hv H := Own.of_heap g.ho fun b hb => hf4.block b (World.ownsRow.lt g.ho b hb).2 (g.dis b hb)
    have hlos4 : lo ≤ w4.heap.size := Nat.le_trans g.los hf4.size
    have hcapM : (A.make key val i j).cap = A.cap := by unfold AR.make; split <;> rfl
    have hlof4 : ∀ b, q4.fp b → lo ≤ b := fun b hb => by
      rcases hq4 b hb with e | e
      · exact g.lof b e
      · have := g.los; omega
    have hdis4 : ∀ b, hv.ownBlock = some b → ¬ q4.fp b := fun b hb hq => by
      rcases hq4 b hq with e | e
      · exact g.dis b hb e
      · have := (World.ownsRow.lt g.ho b hb).2; omega
    have hfr4 : FrL lo w w4 := (Fr.of_ext hx3').trans (hf4.mono g.lof)
    obtain ⟨sv, cv, rfl, _, _⟩ := ho4.slice
    rcases mk_ok g.snd g.cap (k := key) (v := val) hi hj with hE | ⟨hE, hM⟩
    · rw [hE, show A.makeI key val i j = A.top by unfold AR.makeI; rw [if_pos hE]]
      have hsnd : Sound (A.make key val i j) (fun j => (H ++ [A.top]).count j) :=
        (g.snd.make (fun x => by have := List.count_le_length (a := x) (l := H); omega) hE).congr fun x _ => (count_push H A.top x).symm
      repeat (first | refine sp ?_ | (refine is_load ?_; refine ld ?_) | (refine is_store ?_; refine sr ?_) | (refine is_alloc ?_; refine al ?_) | (refine is_box ?_; refine bx ?_) | (refine isl_load ?_; refine ldl ?_) | (refine isl_store ?_; refine srl ?_) | (refine isl_alloc ?_; refine all' ?_) | (refine isl_box ?_; refine bxl ?_) | refine dr Try.follows ?_)
      refine go_pushG (by decide) rfl rfl rfl rfl ho4 rfl (one_u32 _) (by omega) (by simp [maxLen]; omega) (by omega) hlos4 ?_
      intro v' w5 ho5 hg5 hbk5
      obtain ⟨sv', cv', rfl, _, _⟩ := ho5.slice
      obtain ⟨hc5, hC, hF⟩ := CliAt.pushed hc4 ha4 ho4 hdis4 hsnd (by rw [hcapM]; exact g.cap) (ValR.make g.vr hv1) g.loc hlof4 hlos4 (by simpa [OwnN] using ho5) hg5 hbk5
      repeat (first | refine sp ?_ | (refine is_load ?_; refine ld ?_) | (refine is_store ?_; refine sr ?_) | (refine is_alloc ?_; refine al ?_) | (refine is_box ?_; refine bx ?_) | (refine isl_load ?_; refine ldl ?_) | (refine isl_store ?_; refine srl ?_) | (refine isl_alloc ?_; refine all' ?_) | (refine isl_box ?_; refine bxl ?_) | refine dr Try.follows ?_)
      refine go_ret1 rfl rfl ⟨_, rfl, rfl, q4, _, _, H ++ [A.top], hC, hcapM, by simp, hfr4.trans hF⟩
    · rw [hE]
      repeat (first | refine sp ?_ | (refine is_load ?_; refine ld ?_) | (refine is_store ?_; refine sr ?_) | (refine is_alloc ?_; refine al ?_) | (refine is_box ?_; refine bx ?_) | (refine isl_load ?_; refine ldl ?_) | (refine isl_store ?_; refine srl ?_) | (refine isl_alloc ?_; refine all' ?_) | (refine isl_box ?_; refine bxl ?_) | refine dr Try.follows ?_)
      refine go_ret1 rfl rfl ⟨_, rfl, rfl, q4, _, _, H, ⟨hc4, ha4, ho4, hdis4, by rw [hM]; exact g.snd, by rw [hcapM]; exact g.cap, by rw [hM]; exact g.vr, g.loc, hlof4, hlos4⟩, hcapM, by omega, hfr4⟩

end Go.Proofs.Ytapocbahkeoeoaa
