/-
  The steps of a caller of an arena, and the dump behind them.
-/
import Derived.Test.YtapocbahkeoeoaaAu6
import Derived.Test.YtapocbahkeoeoaaL5g
set_option linter.unusedVariables false
namespace Go.Proofs.Ytapocbahkeoeoaa
open Go.Vc

/-- An arena at block 'p' and a list of references 'H' that are held. -/
structure HeldAt (w : World) (lo p : Nat) (q : AP) (A : AR) (hv : Value) (H : List Nat) : Prop where
  ar : ArP w lo p q A
  ho : OwnN w lo hv H
  dis : ∀ b, hv.ownBlock = some b → ¬ q.fp b
  snd : Sound A (fun i => H.count i)
  cap : A.cap ≤ 30
  vr : ValR A
  lof : ∀ b, q.fp b → lo ≤ b
  los : lo ≤ w.heap.size

theorem HeldAt.ext {w w' : World} {lo p : Nat} {q : AP} {A : AR} {hv : Value} {H : List Nat} (h : HeldAt w lo p q A hv H) (f : Ext w w') : HeldAt w' lo p q A hv H :=
  ⟨h.ar.ext f, h.ho.ext f, h.dis, h.snd, h.cap, h.vr, h.lof, Nat.le_trans h.los f.size⟩
theorem HeldAt.mem {w : World} {lo p : Nat} {q : AP} {A : AR} {hv : Value} {H : List Nat} (h : HeldAt w lo p q A hv H) {i : Nat} (hi : i ∈ H) : i = 0 ∨ A.used i = true := by
  rcases Nat.eq_zero_or_pos i with h0 | hp
  · exact Or.inl h0
  · right
    cases e : A.used i with
    | true => rfl
    | false =>
      have := h.snd.hz i hp e
      have h2 := List.count_pos_iff.2 hi
      omega
theorem HeldAt.mem_le {w : World} {lo p : Nat} {q : AP} {A : AR} {hv : Value} {H : List Nat} (h : HeldAt w lo p q A hv H) {i : Nat} (hi : i ∈ H) : i ≤ 30 := by
  have := h.cap
  rcases h.mem hi with h0 | hu
  · omega
  · have := used_le h.ar.wf hu; omega

theorem HeldAt.pushed {w1 w2 : World} {lo p : Nat} {q : AP} {A : AR} {hv hv' : Value} {H : List Nat} {i : Nat}
    (ar : ArP w1 lo p q A) (ho : OwnN w1 lo hv H) (dis : ∀ b, hv.ownBlock = some b → ¬ q.fp b) (snd : Sound A (fun j => (H ++ [i]).count j)) (cap : A.cap ≤ 30) (vr : ValR A) (lof : ∀ b, q.fp b → lo ≤ b) (los : lo ≤ w1.heap.size)
    (ho' : OwnN w2 lo hv' (H ++ [i])) (hg : w1.grownBy w2 hv.ownBlock) (hbk : ∀ b, hv'.ownBlock = some b → hv.ownBlock = some b ∨ w1.heap.size ≤ b) :
    HeldAt w2 lo p q A hv' (H ++ [i]) ∧ FrL lo w1 w2 := by
  have hf := Fr.of_grown hg
  refine ⟨⟨ar.fr hf (fun b hb e => dis b e hb), ho', fun b hb hq => ?_, snd, cap, vr, lof, Nat.le_trans los hf.size⟩, hf.mono' fun b hb e => (World.ownsRow.lt ho b e).1⟩
  rcases hbk b hb with e | e
  · exact dis b e hq
  · have := ar.lt b hq; omega

/-- A step: whether a reference is dropped, key, value, left, right. -/
structure St6 where
  (drop : Bool) (key val l r : Int)
def St6.cells (s : St6) : List Value := [.bool s.drop, .int .i64 s.key, .int .i64 s.val, .int .i64 s.l, .int .i64 s.r]
def St6.wf (s : St6) : Prop := (-9223372036854775808 ≤ s.val ∧ s.val ≤ 9223372036854775807) ∧ (-9223372036854775808 ≤ s.l ∧ s.l ≤ 9223372036854775807) ∧ (-9223372036854775808 ≤ s.r ∧ s.r ≤ 9223372036854775807)

set_option maxHeartbeats 8000000 in
theorem c_build6 (n : Nat) (lv : Value) (l : List St6) (w : World) (h : Rd w 0 lv St6.cells l) (hw : ∀ s ∈ l, s.wf) (hlen : l.length ≤ 9223372036854775807) (h1 : 1 ≤ n) (h2 : n ≤ 30) :
    Calls Try.prog 57 [.int .i64 (n : Int), lv].toArray w (Ret fun r w' => ∃ lo lo2 p q A hv H dv, w.heap.size ≤ lo ∧ r = .tuple #[dv, hv, .bool true] ∧ HeldAt w' lo p q A hv H ∧ DpAt w' lo2 dv A.dump ∧ A.cap = n ∧ H.length ≤ 61 ∧ 1 ≤ H.length ∧ Ext w w') := by
  obtain ⟨sl, cl, rfl, hcl, hr, hb⟩ := h
  refine calls_go Try.func57 rfl Try.ntmps57 (Nat.le_of_ble_eq_true rfl) ?_
  repeat (first | refine sp ?_ | (refine is_load ?_; refine ld ?_) | (refine is_store ?_; refine sr ?_) | (refine is_alloc ?_; refine al ?_) | (refine is_box ?_; refine bx ?_) | (refine isl_load ?_; refine ldl ?_) | (refine isl_store ?_; refine srl ?_) | (refine isl_alloc ?_; refine all' ?_) | (refine isl_box ?_; refine bxl ?_) | refine dr Try.follows ?_)
  refine go_name (F := fun w0 => At w0 w.heap.size [.slice none 0 0, .slice none 0 0] 36 ∧ Ext w w0 ∧ w.heap.size + 1 ≤ w0.heap.size) ⟨by (repeat (first | assumption | (refine At.new' (by (first | omega | (simp; done) | (simp; omega))) _ _) | apply At.alloc | apply At.drewN | apply At.setRow | (apply At.setRow_neF; first | assumption | (apply Ne.symm; assumption) | omega) | (apply At.extF; assumption))), by (repeat (first | exact Fr.refl _ _ | assumption | apply Fr.drewN | apply Fr.alloc | (apply Fr.transF; assumption) | (refine Fr.setRow ?_ _ (by first | exact Or.inr (by (first | omega | (simp; done) | (simp; omega))) | (exact Or.inl (by first | assumption | (simp; done))))))), by simp⟩ ?_
  rintro w0 ⟨hdc, hx0, hs0⟩
  refine go_call rfl rfl (p_New w0 n (by omega) (by omega)) ?_
  rintro r w1 ⟨p, q, rfl, ha, hq, hx1⟩
  replace hdc := hdc.ext hx1
  have hx1' := hx0.trans hx1
  repeat (first | refine sp ?_ | (refine is_load ?_; refine ld ?_) | (refine is_store ?_; refine sr ?_) | (refine is_alloc ?_; refine al ?_) | (refine is_box ?_; refine bx ?_) | (refine isl_load ?_; refine ldl ?_) | (refine isl_store ?_; refine srl ?_) | (refine isl_alloc ?_; refine all' ?_) | (refine isl_box ?_; refine bxl ?_) | refine dr Try.follows ?_)
  refine go_litG (l := [.int .u32 0]) rfl rfl (by decide) (by decide) rfl ?_
  have hx2 : Ext w1 (w1.alloc (.cells [Value.int .u32 0].toArray 27)) := (Fr.refl _ _).alloc _
  have hO : OwnN (w1.alloc (.cells [Value.int .u32 0].toArray 27)) w0.heap.size (.slice (some ⟨w1.heap.size, 0, none⟩) 1 1) [0] :=
    Own.of_block1 (C := []) rfl hx1.size (by simpa using At.new w1 [Value.int .u32 0] 27) (by decide) rfl
  have hH : HeldAt (w1.alloc (.cells [Value.int .u32 0].toArray 27)) w0.heap.size p q (AR.new n) (.slice (some ⟨w1.heap.size, 0, none⟩) 1 1) [0] :=
    ⟨ha.ext hx2, hO, (by intro b hb hq; have h3 : w1.heap.size = b := by simpa [Value.ownBlock] using hb
                         subst h3; exact absurd (ha.lt _ hq) (by omega)), (Sound.new h1 (by omega)).congr (by intro i hi; rw [List.count_singleton, if_neg (by simp; omega)]), h2, (by intro i hi; cases hi), hq, Nat.le_trans hx1.size hx2.size⟩
  replace hdc := hdc.ext hx2
  replace hx1' := hx1'.trans hx2
  generalize w1.alloc (.cells [Value.int .u32 0].toArray 27) = w2 at hH hdc hx1' ⊢
  generalize w1.heap.size = hb0 at hH ⊢
  generalize w0.heap.size = lo at *
  clear hx1 hx2 hO ha hq hx0
  repeat (first | refine sp ?_ | (refine is_load ?_; refine ld ?_) | (refine is_store ?_; refine sr ?_) | (refine is_alloc ?_; refine al ?_) | (refine is_box ?_; refine bx ?_) | (refine isl_load ?_; refine ldl ?_) | (refine isl_store ?_; refine srl ?_) | (refine isl_alloc ?_; refine all' ?_) | (refine isl_box ?_; refine bxl ?_) | refine dr Try.follows ?_)
  refine go_loop (G := Nat × AP × AR × Value × List Nat) [10, 9] (fun ⟨k, _, _, hv, _⟩ => [.int .i64 (k : Int), hv]) [(1, .slice sl l.length cl), (4, ptr w.heap.size), (7, ptr p)]
    (fun ⟨k, q, A, hv, H⟩ w' => k ≤ l.length ∧ k ≤ 60 ∧ H.length ≤ k + 1 ∧ 1 ≤ H.length ∧ A.cap = n ∧ HeldAt w' lo p q A hv H ∧ At w' w.heap.size [.slice none 0 0, .slice none 0 0] 36 ∧ Ext w w') (fun g => l.length - g.1) (0, q, AR.new n, _, [0]) rfl ⟨rfl, rfl, rfl, trivial⟩ ⟨by omega, by omega, by simp, by simp, rfl, hH, hdc, hx1'⟩ ?_
  clear hH hdc hx1'
  rintro ⟨k, q, A, hv, H⟩ w3 ⟨hk, hk60, hHl, hH1, hcap, g, hdc, hx3⟩
  by_cases hlt : k < l.length
  · by_cases hlt2 : k < 60
    · obtain ⟨b, o, rfl, hcell⟩ := (hr.ext hx3).at (m := 5) (fun _ => rfl) (by omega) hlt
      have hwk := hw l[k] (List.getElem_mem hlt)
      generalize l[k] = s at hcell hwk
      obtain ⟨hw1, hw2, hw3⟩ := hwk
      have e0 := hcell 0 (.bool s.drop) rfl
      have e1 := hcell 1 (.int .i64 s.key) rfl
      have e2 := hcell 2 (.int .i64 s.val) rfl
      have e3 := hcell 3 (.int .i64 s.l) rfl
      have e4 := hcell 4 (.int .i64 s.r) rfl
      obtain ⟨sv, cv, rfl, hcv, hrv⟩ := g.ho.slice
      have m1 := Int.emod_nonneg s.l (show ((H.length : Nat) : Int) ≠ 0 by omega)
      have m2 := Int.emod_lt_of_pos s.l (show (0 : Int) < ((H.length : Nat) : Int) by omega)
      have m3 := Int.emod_nonneg s.r (show ((H.length : Nat) : Int) ≠ 0 by omega)
      have m4 := Int.emod_lt_of_pos s.r (show (0 : Int) < ((H.length : Nat) : Int) by omega)
      obtain ⟨i, hi⟩ : ∃ i : Nat, s.l % ((H.length : Nat) : Int) = (i : Int) := ⟨(s.l % ((H.length : Nat) : Int)).toNat, by omega⟩
      obtain ⟨j, hj⟩ : ∃ j : Nat, s.r % ((H.length : Nat) : Int) = (j : Int) := ⟨(s.r % ((H.length : Nat) : Int)).toNat, by omega⟩
      have hxd : Ext w3 (w3.drewN 1) := (Fr.refl _ _).drewN 1
      repeat (first | refine sp ?_ | (refine is_load ?_; refine ld ?_) | (refine is_store ?_; refine sr ?_) | (refine is_alloc ?_; refine al ?_) | (refine is_box ?_; refine bx ?_) | (refine isl_load ?_; refine ldl ?_) | (refine isl_store ?_; refine srl ?_) | (refine isl_alloc ?_; refine all' ?_) | (refine isl_box ?_; refine bxl ?_))
      refine go_drawE (Fr (fun _ => False) w3) 0 Try.follows (by kernel_rfl) (by kernel_rfl) (by kernel_rfl) ((Fr.refl _ _).drewN 1) ?_
      repeat (first | refine sp ?_ | (refine is_load ?_; refine ld ?_) | (refine is_store ?_; refine sr ?_) | (refine is_alloc ?_; refine al ?_) | (refine is_box ?_; refine bx ?_) | (refine isl_load ?_; refine ldl ?_) | (refine isl_store ?_; refine srl ?_) | (refine isl_alloc ?_; refine all' ?_) | (refine isl_box ?_; refine bxl ?_))
      refine gol_call rfl rfl (c_Mod s.l ((H.length : Nat) : Int) _ hw2 (by omega)) ?_
      rintro _ w4 ⟨rfl, rfl⟩
      refine ⟨hxd, ?_⟩
      repeat (first | refine sp ?_ | (refine is_load ?_; refine ld ?_) | (refine is_store ?_; refine sr ?_) | (refine is_alloc ?_; refine al ?_) | (refine is_box ?_; refine bx ?_) | (refine isl_load ?_; refine ldl ?_) | (refine isl_store ?_; refine srl ?_) | (refine isl_alloc ?_; refine all' ?_) | (refine isl_box ?_; refine bxl ?_))
      refine gol_call rfl rfl (c_Mod s.r ((H.length : Nat) : Int) _ hw3 (by omega)) ?_
      rintro _ w4 ⟨rfl, rfl⟩
      refine ⟨hxd, ?_⟩
      refine go_as 47 (u' := .int .i64 (i : Int)) rfl (by rw [hi]) ?_
      refine go_as 55 (u' := .int .i64 (j : Int)) rfl (by rw [hj]) ?_
      replace g := g.ext hxd
      replace hdc := hdc.ext hxd
      replace hx3 := hx3.trans hxd
      replace hrv := hrv.ext hxd
      replace e0 := hxd.cell e0 id
      replace e1 := hxd.cell e1 id
      replace e2 := hxd.cell e2 id
      generalize w3.drewN 1 = w4 at *
      clear e3 e4 hcell hxd
      have hil : i < H.length := by omega
      have hjl : j < H.length := by omega
      cases hdr : s.drop with
      | true =>
        rw [hdr] at e0
        by_cases hi0 : i = 0
        · subst hi0
          repeat (first | refine sp ?_ | (refine is_load ?_; refine ld ?_) | (refine is_store ?_; refine sr ?_) | (refine is_alloc ?_; refine al ?_) | (refine is_box ?_; refine bx ?_) | (refine isl_load ?_; refine ldl ?_) | (refine isl_store ?_; refine srl ?_) | (refine isl_alloc ?_; refine all' ?_) | (refine isl_box ?_; refine bxl ?_))
          exact go_stop (G := Nat × AP × AR × Value × List Nat) (k + 1, q, A, _, H) rfl ⟨rfl, rfl, rfl, trivial⟩ ⟨hlt, hlt2, by omega, hH1, hcap, g, hdc, hx3⟩ (by show l.length - (k + 1) < l.length - k; omega)
        obtain ⟨b0, o0, hsv, hcellH⟩ := hrv i (.int .u32 ((H[i] : Nat) : Int)) (by simp [hil])
        subst hsv
        repeat (first | refine sp ?_ | (refine is_load ?_; refine ld ?_) | (refine is_store ?_; refine sr ?_) | (refine is_alloc ?_; refine al ?_) | (refine is_box ?_; refine bx ?_) | (refine isl_load ?_; refine ldl ?_) | (refine isl_store ?_; refine srl ?_) | (refine isl_alloc ?_; refine all' ?_) | (refine isl_box ?_; refine bxl ?_))
        refine go_call rfl rfl (c_relL w4 lo p q A H i g.ar g.snd g.cap g.vr g.los (by omega) hil) ?_
        rintro _ w5 ⟨n1, q2, B, rfl, ha2, hq2, hf2, hs2, hcap2, _, hn31, hvr2⟩
        have hneD : ¬ q.fp w.heap.size := fun e => by have := g.lof _ e; omega
        have hdc2 := hdc.fr hf2 hneD
        have ho2 : OwnN w5 lo (Value.slice (some ⟨b0, o0, none⟩) H.length cv) H := Own.of_heap g.ho fun b hb => hf2.block b (World.ownsRow.lt g.ho b hb).2 (g.dis b hb)
        obtain ⟨_, _, heq, hcv2, hr2⟩ := ho2.slice
        injection heq with e5 _ e6
        subst e5; subst e6
        have hlos2 : lo ≤ w5.heap.size := Nat.le_trans g.los hf2.size
        have hx5 : Ext w w5 := hx3.trans' hf2 fun b hb hs => by have := g.lof b hs; omega
        repeat (first | refine sp ?_ | (refine is_load ?_; refine ld ?_) | (refine is_store ?_; refine sr ?_) | (refine is_alloc ?_; refine al ?_) | (refine is_box ?_; refine bx ?_) | (refine isl_load ?_; refine ldl ?_) | (refine isl_store ?_; refine srl ?_) | (refine isl_alloc ?_; refine all' ?_) | (refine isl_box ?_; refine bxl ?_))
        refine go_drawE (Fr (fun _ => False) w5) 0 Try.follows (by kernel_rfl) (by kernel_rfl) (by kernel_rfl) ((Fr.refl _ _).drewN 1) ?_
        repeat (first | refine sp ?_ | (refine is_load ?_; refine ld ?_) | (refine is_store ?_; refine sr ?_) | (refine is_alloc ?_; refine al ?_) | (refine is_box ?_; refine bx ?_) | (refine isl_load ?_; refine ldl ?_) | (refine isl_store ?_; refine srl ?_) | (refine isl_alloc ?_; refine all' ?_) | (refine isl_box ?_; refine bxl ?_))
        refine gol_p rfl rfl (pr_sl (lo := 0) (hi := i) (by decide) rfl rfl ⟨_, _, rfl, rfl⟩ (by omega) (by omega)) ?_
        have hrd := (Fr.refl (fun _ => False) w5).drewN 1
        refine gol_appendG (r := i) (lo := w5.heap.size) (q := 0) (xs := []) (by decide) rfl rfl rfl (Own.nil _ _ _ _) ((RdC.cut hr2 (lo := 0) (hi := i) (by omega)).ext hrd) (by simp; omega) (by intro u hu; simp at hu; obtain ⟨_, _, rfl⟩ := List.mem_map.1 (List.mem_of_mem_take hu); rfl) (by simp [maxLen]; omega) (by omega) (by simp) ?_
        intro v6 w6 ho6 hg6 _
        have hx6 : Ext w5 w6 := ext_grown hrd (Nat.le_refl _) (Own.nil _ w5.heap.size 27 1) hg6
        have hr6 := hr2.ext hx6
        refine ⟨hx6, ?_⟩
        repeat (first | refine sp ?_ | (refine is_load ?_; refine ld ?_) | (refine is_store ?_; refine sr ?_) | (refine is_alloc ?_; refine al ?_) | (refine is_box ?_; refine bx ?_) | (refine isl_load ?_; refine ldl ?_) | (refine isl_store ?_; refine srl ?_) | (refine isl_alloc ?_; refine all' ?_) | (refine isl_box ?_; refine bxl ?_))
        refine gol_p rfl rfl (pr_sl (lo := i + 1) (hi := H.length) (by decide) rfl ⟨_, _, rfl, by simp⟩ rfl (by omega) (by omega)) ?_
        have hl6 := hx6.size
        refine gol_appendG (r := H.length - (i + 1)) (by decide) rfl rfl rfl ho6 (RdC.cut hr6 (lo := i + 1) (hi := H.length) (by omega)) (by simp) (by intro u hu; obtain ⟨_, _, rfl⟩ := List.mem_map.1 (List.mem_of_mem_take (List.mem_of_mem_drop hu)); rfl) (by simp [maxLen]; omega) (by omega) (by omega) ?_
        intro v7 w7 ho7 hg7 _
        have hx7 : Ext w5 w7 := ext_grown hx6 (Nat.le_refl _) ho6 hg7
        refine ⟨hx7, ?_⟩
        repeat (first | refine sp ?_ | (refine is_load ?_; refine ld ?_) | (refine is_store ?_; refine sr ?_) | (refine is_alloc ?_; refine al ?_) | (refine is_box ?_; refine bx ?_) | (refine isl_load ?_; refine ldl ?_) | (refine isl_store ?_; refine srl ?_) | (refine isl_alloc ?_; refine all' ?_) | (refine isl_box ?_; refine bxl ?_))
        have hH : ([] : List Value) ++ ((H.map fun (i : Nat) => Value.int .u32 (i : Int)).take i).drop 0 ++ ((H.map fun (i : Nat) => Value.int .u32 (i : Int)).take H.length).drop (i + 1) = (H.take i ++ H.drop (i + 1)).map fun (i : Nat) => Value.int .u32 (i : Int) := by
          have ht : (H.map fun (i : Nat) => Value.int .u32 (i : Int)).take H.length = H.map fun (i : Nat) => Value.int .u32 (i : Int) := List.take_of_length_le (by simp)
          rw [List.nil_append, List.drop_zero, List.map_append, List.map_take, List.map_drop, ht]
        have hlen2 : (H.take i ++ H.drop (i + 1)).length = 0 + i + (H.length - (i + 1)) := by simp; omega
        have hO : OwnN w7 w5.heap.size v7 (H.take i ++ H.drop (i + 1)) := by
          unfold OwnN
          rw [hlen2, ← hH]; exact ho7
        refine go_stop (G := Nat × AP × AR × Value × List Nat) (k + 1, q2, B, v7, H.take i ++ H.drop (i + 1)) rfl ⟨rfl, rfl, rfl, trivial⟩ ⟨hlt, hlt2, by omega, by omega, by omega, ⟨ha2.ext hx7, hO.mono hlos2, fun b hb hq => ?_, hs2, by omega, hvr2, fun b hb => ?_, Nat.le_trans hlos2 hx7.size⟩, hdc2.ext hx7, hx5.trans hx7⟩ (by show l.length - (k + 1) < l.length - k; omega)
        · have := (World.ownsRow.lt hO b hb).1
          have := ha2.lt b hq
          omega
        · rcases hq2 b hb with e | e
          · exact g.lof b e
          · have := g.los; omega
      | false =>
        rw [hdr] at e0
        have hpk : ∀ x, (hx : x < H.length) → (H[x] = 0 ∨ A.used H[x] = true) ∧ H[x] ≤ 30 := fun x hx => ⟨g.mem (List.getElem_mem hx), g.mem_le (List.getElem_mem hx)⟩
        obtain ⟨b0, o0, hsv, hcellI⟩ := hrv i (.int .u32 ((H[i] : Nat) : Int)) (by simp [hil])
        subst hsv
        obtain ⟨b1, o1, e5, hcellJ⟩ := hrv j (.int .u32 ((H[j] : Nat) : Int)) (by simp [hjl])
        simp only [Option.some.injEq, Addr.mk.injEq, and_true] at e5
        obtain ⟨rfl, rfl⟩ := e5
        obtain ⟨hxi, hxi30⟩ := hpk i hil
        obtain ⟨hxj, hxj30⟩ := hpk j hjl
        generalize H[i] = xi at *
        generalize H[j] = xj at *
        repeat (first | refine sp ?_ | (refine is_load ?_; refine ld ?_) | (refine is_store ?_; refine sr ?_) | (refine is_alloc ?_; refine al ?_) | (refine is_box ?_; refine bx ?_) | (refine isl_load ?_; refine ldl ?_) | (refine isl_store ?_; refine srl ?_) | (refine isl_alloc ?_; refine all' ?_) | (refine isl_box ?_; refine bxl ?_))
        refine go_drawE (Fr (fun _ => False) w4) 6 Try.follows (by kernel_rfl) (by kernel_rfl) (by kernel_rfl) ((Fr.refl _ _).drewN 1) ?_
        have hxd : Ext w4 (w4.drewN 1) := (Fr.refl _ _).drewN 1
        repeat (first | refine sp ?_ | (refine is_load ?_; refine ld ?_) | (refine is_store ?_; refine sr ?_) | (refine is_alloc ?_; refine al ?_) | (refine is_box ?_; refine bx ?_) | (refine isl_load ?_; refine ldl ?_) | (refine isl_store ?_; refine srl ?_) | (refine isl_alloc ?_; refine all' ?_) | (refine isl_box ?_; refine bxl ?_))
        have g4 := g.ext hxd
        refine gol_call rfl rfl (p_Make _ lo p q A s.key s.val xi xj g4.ar (by omega) (by omega)) ?_
        rintro _ w5 ⟨rfl, q5, ha5, hq5, hf5⟩
        refine ⟨by trivial, ?_⟩
        have hneD : ¬ q.fp w.heap.size := fun e => by have := g.lof _ e; omega
        have hdc5 := (hdc.ext hxd).fr hf5 hneD
        have ho5 : OwnN w5 lo (Value.slice (some ⟨b0, o0, none⟩) H.length cv) H := Own.of_heap g4.ho fun b hb => hf5.block b (World.ownsRow.lt g4.ho b hb).2 (g.dis b hb)
        have hlos5 : lo ≤ w5.heap.size := Nat.le_trans g4.los hf5.size
        have hcapM : (A.make s.key s.val xi xj).cap = A.cap := by unfold AR.make; split <;> rfl
        have hlof5 : ∀ b, q5.fp b → lo ≤ b := fun b hb => by
          rcases hq5 b hb with e | e
          · exact g.lof b e
          · have := g4.los; omega
        have hdis5 : ∀ b, (Value.slice (some ⟨b0, o0, none⟩) H.length cv).ownBlock = some b → ¬ q5.fp b := fun b hb hq => by
          rcases hq5 b hq with e | e
          · exact g.dis b hb e
          · have := (World.ownsRow.lt g4.ho b hb).2; omega
        have hx5 : Ext w w5 := (hx3.trans hxd).trans' hf5 fun b hb hs => by have := g.lof b hs; omega
        rcases mk_ok g.snd g.cap (k := s.key) (v := s.val) hxi hxj with hE | ⟨hE, hM⟩
        · rw [hE, show A.makeI s.key s.val xi xj = A.top by unfold AR.makeI; rw [if_pos hE]]
          have hsnd : Sound (A.make s.key s.val xi xj) (fun j => (H ++ [A.top]).count j) :=
            (g.snd.make (fun x => by have := List.count_le_length (a := x) (l := H); omega) hE).congr fun x _ => (count_push H A.top x).symm
          repeat (first | refine sp ?_ | (refine is_load ?_; refine ld ?_) | (refine is_store ?_; refine sr ?_) | (refine is_alloc ?_; refine al ?_) | (refine is_box ?_; refine bx ?_) | (refine isl_load ?_; refine ldl ?_) | (refine isl_store ?_; refine srl ?_) | (refine isl_alloc ?_; refine all' ?_) | (refine isl_box ?_; refine bxl ?_))
          refine go_pushG (by decide) rfl rfl rfl rfl ho5 rfl (one_u32 _) (by omega) (by simp [maxLen]; omega) (by omega) hlos5 ?_
          intro v' w6 ho6 hg6 hbk6
          obtain ⟨hH6, hF6⟩ := HeldAt.pushed ha5 ho5 hdis5 hsnd (by rw [hcapM]; exact g.cap) (ValR.make g.vr hw1) hlof5 hlos5 (by unfold OwnN; rw [List.map_append, List.length_append]; simpa using ho6) hg6 hbk6
          have hdc6 := hdc5.fr hF6 (by omega)
          repeat (first | refine sp ?_ | (refine is_load ?_; refine ld ?_) | (refine is_store ?_; refine sr ?_) | (refine is_alloc ?_; refine al ?_) | (refine is_box ?_; refine bx ?_) | (refine isl_load ?_; refine ldl ?_) | (refine isl_store ?_; refine srl ?_) | (refine isl_alloc ?_; refine all' ?_) | (refine isl_box ?_; refine bxl ?_))
          exact go_stop (G := Nat × AP × AR × Value × List Nat) (k + 1, q5, _, v', H ++ [A.top]) rfl ⟨rfl, rfl, rfl, trivial⟩ ⟨hlt, hlt2, by simp; omega, by simp, by rw [hcapM]; exact hcap, hH6, hdc6, hx5.trans' hF6 (fun b hb hs => by omega)⟩ (by show l.length - (k + 1) < l.length - k; omega)
        · rw [hE]
          repeat (first | refine sp ?_ | (refine is_load ?_; refine ld ?_) | (refine is_store ?_; refine sr ?_) | (refine is_alloc ?_; refine al ?_) | (refine is_box ?_; refine bx ?_) | (refine isl_load ?_; refine ldl ?_) | (refine isl_store ?_; refine srl ?_) | (refine isl_alloc ?_; refine all' ?_) | (refine isl_box ?_; refine bxl ?_))
          exact go_stop (G := Nat × AP × AR × Value × List Nat) (k + 1, q5, _, _, H) rfl ⟨rfl, rfl, rfl, trivial⟩ ⟨hlt, hlt2, by omega, hH1, by rw [hcapM]; exact hcap, ⟨ha5, ho5, hdis5, by rw [hM]; exact g.snd, by rw [hcapM]; exact g.cap, by rw [hM]; exact g.vr, hlof5, hlos5⟩, hdc5, hx5⟩ (by show l.length - (k + 1) < l.length - k; omega)
    · skip
      obtain ⟨sv, cv, rfl, hcv, hrv⟩ := g.ho.slice
      repeat (first | refine sp ?_ | (refine is_load ?_; refine ld ?_) | (refine is_store ?_; refine sr ?_) | (refine is_alloc ?_; refine al ?_) | (refine is_box ?_; refine bx ?_) | (refine isl_load ?_; refine ldl ?_) | (refine isl_store ?_; refine srl ?_) | (refine isl_alloc ?_; refine all' ?_) | (refine isl_box ?_; refine bxl ?_))
      refine go_call rfl rfl (p_Dump w3 lo p q A g.ar) ?_
      rintro dv w4 ⟨hdp, hx4⟩
      obtain ⟨ds, df, rfl, hds, hdf⟩ := id hdp
      obtain ⟨da, dcap, rfl, _, _, _⟩ := hds
      obtain ⟨fa, fcap, rfl, _, _, _⟩ := hdf
      have g4 := g.ext hx4
      have hdc4 := hdc.ext hx4
      have hw3 := hdc.lt
      repeat (first | refine sp ?_ | (refine is_load ?_; refine ld ?_) | (refine is_store ?_; refine sr ?_) | (refine is_alloc ?_; refine al ?_) | (refine is_box ?_; refine bx ?_) | (refine isl_load ?_; refine ldl ?_) | (refine isl_store ?_; refine srl ?_) | (refine isl_alloc ?_; refine all' ?_) | (refine isl_box ?_; refine bxl ?_))
      have hF : Fr (fun b => b = w.heap.size) w4 (w4.setRow w.heap.size [Value.slice da A.dump.slots.length dcap, .slice fa A.dump.free.length fcap].toArray) := Fr.setRow (Fr.refl _ _) _ (Or.inl rfl)
      refine go_ret3 rfl ⟨_, rfl, Ld.run (ld_part (hdc4.setRow _) rfl rfl)⟩ rfl rfl ⟨_, rfl, lo, w3.heap.size, p, q, A, _, H, _, by omega, rfl, ⟨g4.ar.fr hF (fun b hb e => by have := g.lof b hb; omega), Own.of_heap g4.ho (fun b hb => hF.block b (World.ownsRow.lt g4.ho b hb).2 (fun e => by have := (World.ownsRow.lt g4.ho b hb).1; omega)), g4.dis, g4.snd, g4.cap, g4.vr, g4.lof, Nat.le_trans g4.los hF.size⟩, hdp.fr hF (fun b hb _ e => by omega), hcap, by omega, hH1, (hx3.trans hx4).setRow _ (Or.inr (Nat.le_refl _))⟩
  · skip
    obtain ⟨sv, cv, rfl, hcv, hrv⟩ := g.ho.slice
    repeat (first | refine sp ?_ | (refine is_load ?_; refine ld ?_) | (refine is_store ?_; refine sr ?_) | (refine is_alloc ?_; refine al ?_) | (refine is_box ?_; refine bx ?_) | (refine isl_load ?_; refine ldl ?_) | (refine isl_store ?_; refine srl ?_) | (refine isl_alloc ?_; refine all' ?_) | (refine isl_box ?_; refine bxl ?_))
    refine go_call rfl rfl (p_Dump w3 lo p q A g.ar) ?_
    rintro dv w4 ⟨hdp, hx4⟩
    obtain ⟨ds, df, rfl, hds, hdf⟩ := id hdp
    obtain ⟨da, dcap, rfl, _, _, _⟩ := hds
    obtain ⟨fa, fcap, rfl, _, _, _⟩ := hdf
    have g4 := g.ext hx4
    have hdc4 := hdc.ext hx4
    have hw3 := hdc.lt
    repeat (first | refine sp ?_ | (refine is_load ?_; refine ld ?_) | (refine is_store ?_; refine sr ?_) | (refine is_alloc ?_; refine al ?_) | (refine is_box ?_; refine bx ?_) | (refine isl_load ?_; refine ldl ?_) | (refine isl_store ?_; refine srl ?_) | (refine isl_alloc ?_; refine all' ?_) | (refine isl_box ?_; refine bxl ?_))
    have hF : Fr (fun b => b = w.heap.size) w4 (w4.setRow w.heap.size [Value.slice da A.dump.slots.length dcap, .slice fa A.dump.free.length fcap].toArray) := Fr.setRow (Fr.refl _ _) _ (Or.inl rfl)
    refine go_ret3 rfl ⟨_, rfl, Ld.run (ld_part (hdc4.setRow _) rfl rfl)⟩ rfl rfl ⟨_, rfl, lo, w3.heap.size, p, q, A, _, H, _, by omega, rfl, ⟨g4.ar.fr hF (fun b hb e => by have := g.lof b hb; omega), Own.of_heap g4.ho (fun b hb => hF.block b (World.ownsRow.lt g4.ho b hb).2 (fun e => by have := (World.ownsRow.lt g4.ho b hb).1; omega)), g4.dis, g4.snd, g4.cap, g4.vr, g4.lof, Nat.le_trans g4.los hF.size⟩, hdp.fr hF (fun b hb _ e => by omega), hcap, by omega, hH1, (hx3.trans hx4).setRow _ (Or.inr (Nat.le_refl _))⟩

end Go.Proofs.Ytapocbahkeoeoaa
