/-
  The law on nearest keys.
-/
import Derived.Test.YtgafapifpoinlaaLq
import Derived.Test.YtgafapifpoinlaaMod
set_option linter.unusedVariables false
namespace Go.Proofs.Ytgafapifpoinlaa
open Go.Vc

theorem c_most9 (n : Nat) (w : World) {m : Nat} (hm : maxHeight (n : Int) = m) (h80 : m < 80) : Calls Try.prog 25 [.int .i64 (n : Int)].toArray w (Ret fun v w' => v = .int .i64 (4 * ((m : Int) + 2)) ∧ Ext w w') := by
  refine calls_go Try.func25 rfl Try.ntmps25 (Nat.le_of_ble_eq_true rfl) ?_
  repeat (first | refine sp ?_ | (refine is_load ?_; refine ld ?_) | (refine is_store ?_; refine sr ?_) | (refine is_alloc ?_; refine al ?_) | (refine is_box ?_; refine bx ?_) | (refine isl_load ?_; refine ldl ?_) | (refine isl_store ?_; refine srl ?_) | (refine isl_alloc ?_; refine all' ?_) | (refine isl_box ?_; refine bxl ?_) | refine dr Try.follows ?_)
  refine go_call rfl rfl (c_Height (n : Int) w) ?_
  rintro _ w1 ⟨rfl, hx⟩
  rw [hm]
  repeat (first | refine sp ?_ | (refine is_load ?_; refine ld ?_) | (refine is_store ?_; refine sr ?_) | (refine is_alloc ?_; refine al ?_) | (refine is_box ?_; refine bx ?_) | (refine isl_load ?_; refine ldl ?_) | (refine isl_store ?_; refine srl ?_) | (refine isl_alloc ?_; refine all' ?_) | (refine isl_box ?_; refine bxl ?_) | refine dr Try.follows ?_)
  exact go_ret1 rfl rfl ⟨_, rfl, rfl, hx⟩

theorem TreeAt.hgt9 {w0 w : World} {lo p : Nat} {q : AP} {B : AR} {t : Tr} (g : TreeAt w0 w lo p q B t) {n : Nat} (hn : t.sz = n) : ∃ m : Nat, maxHeight (n : Int) = m ∧ m < 80 ∧ t.ht ≤ m := by
  have hs := g.sz
  obtain ⟨m, e, h1, h2, h3⟩ := maxHeight_spec (n := (n : Int)) (by omega) (by omega)
  refine ⟨m, e, h1, ?_⟩
  have h4 := Tr.wt_le g.bal
  have : t.ht < m + 1 := wt_lt (by omega)
  omega
theorem Rds.le9 {A B : AR} {n k : Nat} (h : Rds A B n) (h1 : A.reads ≤ k) (h2 : k + n ≤ 1000000000) : A.reads ≤ B.reads ∧ B.reads ≤ A.reads + n := h.le (by omega)

theorem ne_self (b : Bool) : (b != b) = false := by cases b <;> rfl

/-- A tree, its list, and a list of keys; 'hi' bounds the blocks that these lie in. -/
structure Nr (w w1 : World) (lo p : Nat) (q : AP) (t : Tr) (a : List (Int × Int)) (lv : Value) (bk : Nat) (ks : List Int) (hi : Nat) (w' : World) (B : AR) : Prop where
  g : TreeAt w w' lo p q B t
  ha : RdU w' w1.heap.size lv entC a
  hk : RdC w' (some ⟨bk, 0, none⟩) (ks.map fun x => .int .i64 x)
  hs : hi ≤ w'.heap.size
  h0 : w.heap.size ≤ hi
  h1 : w1.heap.size ≤ p
  hp : p < bk
  hb : bk < hi
  fp : ∀ b, q.fp b → b < hi

theorem Nr.rd {w w1 w' w'' : World} {lo p : Nat} {q : AP} {t : Tr} {a : List (Int × Int)} {lv : Value} {bk : Nat} {ks : List Int} {hi n : Nat} {B : AR} (h : Nr w w1 lo p q t a lv bk ks hi w' B) (hR : ∃ B', ArP w'' lo p q B' ∧ Rds B B' n ∧ Fr (fun b => b = p) w' w'') :
    ∃ B', Nr w w1 lo p q t a lv bk ks hi w'' B' ∧ Rds B B' n ∧ Fr (fun b => b = p) w' w'' := by
  obtain ⟨B', g', hB, hf⟩ := h.g.rd hR
  exact ⟨B', ⟨g', RdU.rd h.ha hf h.h1, h.hk.fr hf (fun b o e hb => by simp only [Option.some.injEq, Addr.mk.injEq] at e; have := h.hp; omega), Nat.le_trans h.hs hf.size, h.h0, h.h1, h.hp, h.hb, h.fp⟩, hB, hf⟩
theorem Nr.fr {w w1 w' w'' : World} {lo p : Nat} {q : AP} {t : Tr} {a : List (Int × Int)} {lv : Value} {bk : Nat} {ks : List Int} {hi : Nat} {B : AR} (h : Nr w w1 lo p q t a lv bk ks hi w' B) (hf : Fr (fun b => hi ≤ b) w' w'') : Nr w w1 lo p q t a lv bk ks hi w'' B :=
  ⟨⟨h.g.ar.fr hf (fun b hb e => by have := h.fp b hb; omega), h.g.inA, h.g.srt, h.g.ine, h.g.bal, h.g.sz, h.g.pb, h.g.ext.trans' hf fun b hb e => by have := h.h0; omega⟩,
   h.ha.fr hf (fun b hb e => by have := h.h1; have := h.hp; have := h.hb; omega), h.hk.fr hf (fun b o e hb => by simp only [Option.some.injEq, Addr.mk.injEq] at e; have := h.hb; omega), Nat.le_trans h.hs hf.size, h.h0, h.h1, h.hp, h.hb, h.fp⟩
theorem Nr.ext {w w1 w' w'' : World} {lo p : Nat} {q : AP} {t : Tr} {a : List (Int × Int)} {lv : Value} {bk : Nat} {ks : List Int} {hi : Nat} {B : AR} (h : Nr w w1 lo p q t a lv bk ks hi w' B) (hf : Ext w' w'') : Nr w w1 lo p q t a lv bk ks hi w'' B := h.fr (hf.mono fun _ e => e.elim)
theorem Nr.up {w w1 w' : World} {lo p : Nat} {q : AP} {t : Tr} {a : List (Int × Int)} {lv : Value} {bk : Nat} {ks : List Int} {hi hi' : Nat} {B : AR} (h : Nr w w1 lo p q t a lv bk ks hi w' B) (h1 : hi ≤ hi') (h2 : hi' ≤ w'.heap.size) : Nr w w1 lo p q t a lv bk ks hi' w' B :=
  ⟨h.g, h.ha, h.hk, h2, Nat.le_trans h.h0 h1, h.h1, h.hp, Nat.lt_of_lt_of_le h.hb h1, fun b hb => Nat.lt_of_lt_of_le (h.fp b hb) h1⟩

set_option maxHeartbeats 8000000 in
theorem c_LawNearest (lv : Value) (l : List (Int × Int)) (tilt x at_ : Int) (w : World) (h : Rd w 0 lv entC l) (he : InE l) (hlen : l.length ≤ 9223372036854775807) (ht : 0 ≤ tilt ∧ tilt ≤ 18446744073709551615) (hx : InV x) (hat : InV at_) :
    Calls Try.prog 4 [lv, .int .u64 tilt, .int .i64 x, .int .i64 at_].toArray w (Ret fun v w' => v = .bool true ∧ Ext w w') := by
  unfold InV at hx hat
  refine calls_go Try.func4 rfl Try.ntmps4 (Nat.le_of_ble_eq_true rfl) ?_
  repeat (first | refine sp ?_ | (refine is_load ?_; refine ld ?_) | (refine is_store ?_; refine sr ?_) | (refine is_alloc ?_; refine al ?_) | (refine is_box ?_; refine bx ?_) | (refine isl_load ?_; refine ldl ?_) | (refine isl_store ?_; refine srl ?_) | (refine isl_alloc ?_; refine all' ?_) | (refine isl_box ?_; refine bxl ?_) | refine dr Try.follows ?_)
  refine go_call rfl rfl (c_List w lv l 120 h.up he hlen (by omega)) ?_
  rintro v1 w1 ⟨a, ha, hok, hx1⟩
  obtain ⟨sa, cap, rfl, hlc, _, _⟩ := ha
  have ha : RdU w1 w1.heap.size (.slice sa a.length cap) entC a := ⟨sa, cap, rfl, hlc, by assumption, by assumption⟩
  repeat (first | refine sp ?_ | (refine is_load ?_; refine ld ?_) | (refine is_store ?_; refine sr ?_) | (refine is_alloc ?_; refine al ?_) | (refine is_box ?_; refine bx ?_) | (refine isl_load ?_; refine ldl ?_) | (refine isl_store ?_; refine srl ?_) | (refine isl_alloc ?_; refine all' ?_) | (refine isl_box ?_; refine bxl ?_) | refine dr Try.follows ?_)
  refine go_call rfl rfl (c_GrowT w w1 a 120 _ tilt 1 ha hok (by omega) (by omega) (by omega) ht hx1) ?_
  rintro _ w2 ⟨lo, p, q, B, t, rfl, g, hen, hsz, hre, hcp, hpb, hx2⟩
  repeat (first | refine sp ?_ | (refine is_load ?_; refine ld ?_) | (refine is_store ?_; refine sr ?_) | (refine is_alloc ?_; refine al ?_) | (refine is_box ?_; refine bx ?_) | (refine isl_load ?_; refine ldl ?_) | (refine isl_store ?_; refine srl ?_) | (refine isl_alloc ?_; refine all' ?_) | (refine isl_box ?_; refine bxl ?_) | refine dr Try.follows ?_)
  refine go_call rfl rfl (c_awake9 w2) ?_
  rintro _ w3 ⟨rfl, hx3⟩
  have g3 := g.step hx3
  have hal := hok.len
  have ha3 := (ha.ext hx2).ext hx3
  obtain ⟨m, hmh, hm80, hht⟩ := g3.hgt9 hsz
  have hpl := g3.ar.lt p g3.ar.fpp
  repeat (first | refine sp ?_ | (refine is_load ?_; refine ld ?_) | (refine is_store ?_; refine sr ?_) | (refine is_alloc ?_; refine al ?_) | (refine is_box ?_; refine bx ?_) | (refine isl_load ?_; refine ldl ?_) | (refine isl_store ?_; refine srl ?_) | (refine isl_alloc ?_; refine all' ?_) | (refine isl_box ?_; refine bxl ?_) | refine dr Try.follows ?_)
  refine go_litG (l := [.int .i64 x, .int .i64 (-9223372036854775808), .int .i64 9223372036854775807]) rfl rfl (by decide) (by decide) rfl ?_
  have hfp3 := g3.ar.lt
  have hxe : Ext w3 (w3.alloc (.cells [Value.int .i64 x, .int .i64 (-9223372036854775808), .int .i64 9223372036854775807].toArray 2)) := by (repeat (first | exact Fr.refl _ _ | assumption | apply Fr.drewN | apply Fr.alloc | (apply Fr.transF; assumption) | (refine Fr.setRow ?_ _ (by first | exact Or.inr (by (first | omega | (simp; done) | (simp; omega))) | (exact Or.inl (by first | assumption | (simp; done)))))))
  have g4 := g3.step hxe
  have ha4 := ha3.ext hxe
  have hk4 : Own (w3.alloc (.cells [Value.int .i64 x, .int .i64 (-9223372036854775808), .int .i64 9223372036854775807].toArray 2)) w3.heap.size 2 1 (.slice (some ⟨w3.heap.size, 0, none⟩) 3 3) 3 ([x, -9223372036854775808, 9223372036854775807].map fun x => .int .i64 x) :=
    Own.of_block1 (C := []) rfl (Nat.le_refl _) (by simpa using At.new _ _ _) (by decide) rfl
  have hl4 : w3.heap.size + 1 ≤ (w3.alloc (.cells [Value.int .i64 x, .int .i64 (-9223372036854775808), .int .i64 9223372036854775807].toArray 2)).heap.size := by simp
  refine sp ?_; refine sp ?_; refine sp ?_
  generalize hw4 : w3.alloc (.cells [Value.int .i64 x, .int .i64 (-9223372036854775808), .int .i64 9223372036854775807].toArray 2) = w4 at *
  refine go_cut (G := Nat × List Int × Nat) [13] (fun ⟨bk, ks, ck⟩ => [.slice (some ⟨bk, 0, none⟩) ks.length ck]) [(9, .slice sa a.length cap), (10, ptr p), (11, .int .u32 (t.root : Int))]
    (fun ⟨bk, ks, ck⟩ w' => Nr w w1 lo p q t a (.slice sa a.length cap) bk ks w'.heap.size w' B ∧ ks.length ≤ 4) ?_ ?_
  · by_cases h0 : 0 < a.length
    · have m1 := Int.emod_nonneg at_ (show (a.length : Int) ≠ 0 by omega)
      have m2 := Int.emod_lt_of_pos at_ (show (0 : Int) < a.length by omega)
      obtain ⟨u, hu⟩ : ∃ u : Nat, at_ % (a.length : Int) = u := ⟨(at_ % (a.length : Int)).toNat, by omega⟩
      have hul : u < a.length := by omega
      obtain ⟨b, o, es, hbl, hcell⟩ := ha4.at (m := 2) (fun _ => rfl) (by omega) hul
      subst es
      have e0 := hcell 0 (.int .i64 a[u].1) rfl
      generalize a[u].1 = z at e0
      repeat (first | refine sp ?_ | (refine is_load ?_; refine ld ?_) | (refine is_store ?_; refine sr ?_) | (refine is_alloc ?_; refine al ?_) | (refine is_box ?_; refine bx ?_) | (refine isl_load ?_; refine ldl ?_) | (refine isl_store ?_; refine srl ?_) | (refine isl_alloc ?_; refine all' ?_) | (refine isl_box ?_; refine bxl ?_))
      refine go_call rfl rfl (c_Mod at_ a.length w4 hat (by omega)) ?_
      rintro _ w5 ⟨rfl, rfl⟩
      rw [hu]
      repeat (first | refine sp ?_ | (refine is_load ?_; refine ld ?_) | (refine is_store ?_; refine sr ?_) | (refine is_alloc ?_; refine al ?_) | (refine is_box ?_; refine bx ?_) | (refine isl_load ?_; refine ldl ?_) | (refine isl_store ?_; refine srl ?_) | (refine isl_alloc ?_; refine all' ?_) | (refine isl_box ?_; refine bxl ?_))
      refine go_pushG (l := [.int .i64 z]) (by decide) rfl rfl rfl rfl hk4 rfl (by simp [Value.oneCell']) (by omega) (by simp [maxLen]) (by omega) (by omega) ?_
      intro v6 w6 ho6 hg6 _
      have hx6 : Ext w3 w6 := ext_grown hxe (Nat.le_refl _) hk4 hg6
      obtain ⟨g, cp, C, rfl, hgl, hatk, _, _, _, _⟩ := ho6.block1 (by omega)
      repeat (first | refine sp ?_ | (refine is_load ?_; refine ld ?_) | (refine is_store ?_; refine sr ?_) | (refine is_alloc ?_; refine al ?_) | (refine is_box ?_; refine bx ?_) | (refine isl_load ?_; refine ldl ?_) | (refine isl_store ?_; refine srl ?_) | (refine isl_alloc ?_; refine all' ?_) | (refine isl_box ?_; refine bxl ?_))
      have hl6 := hx6.size
      exact go_stop (G := Nat × List Int × Nat) (g, [x, -9223372036854775808, 9223372036854775807, z], cp) rfl ⟨rfl, rfl, rfl, trivial⟩ ⟨⟨g3.step hx6, ha3.ext hx6, (by
        intro jj y hy
        refine ⟨_, _, rfl, ?_⟩
        have := hatk.cell (i := jj) (v := y) (by rw [List.getElem?_append_left (by have := (List.getElem?_eq_some_iff.1 hy).1; simpa using this)]; simpa using hy)
        simpa using this), Nat.le_refl _, by have := g3.ext.size; omega, hpb, by omega, by first | exact hatk.lt | (have := hatk.h; exact (Array.getElem?_eq_some_iff.1 this).1), fun b hb => by have := hfp3 b hb; omega⟩, by simp⟩ trivial
    · repeat (first | refine sp ?_ | (refine is_load ?_; refine ld ?_) | (refine is_store ?_; refine sr ?_) | (refine is_alloc ?_; refine al ?_) | (refine is_box ?_; refine bx ?_) | (refine isl_load ?_; refine ldl ?_) | (refine isl_store ?_; refine srl ?_) | (refine isl_alloc ?_; refine all' ?_) | (refine isl_box ?_; refine bxl ?_))
      exact go_stop (G := Nat × List Int × Nat) (w3.heap.size, [x, -9223372036854775808, 9223372036854775807], 3) rfl ⟨rfl, rfl, rfl, trivial⟩ ⟨⟨g4, ha4, (by
        obtain ⟨g, cp, C, e, hgl, hatk, _, _, _, _⟩ := hk4.block1 (by omega)
        simp only [Value.slice.injEq, Option.some.injEq, Addr.mk.injEq, and_true] at e
        obtain ⟨rfl, _, rfl⟩ := e
        intro jj y hy
        refine ⟨_, _, rfl, ?_⟩
        have := hatk.cell (i := jj) (v := y) (by rw [List.getElem?_append_left (by have := (List.getElem?_eq_some_iff.1 hy).1; simpa using this)]; simpa using hy)
        simpa using this), Nat.le_refl _, by have := g3.ext.size; omega, hpb, by omega, by omega, fun b hb => by have := hfp3 b hb; omega⟩, by simp⟩ trivial
  clear hk4 ha4 g4 hl4
  rintro ⟨bk, ks, ck⟩ w5 ⟨N5, hk4⟩
  obtain ⟨hi, hhi⟩ : ∃ hi, hi = w5.heap.size := ⟨_, rfl⟩
  rw [← hhi] at N5
  repeat (first | refine sp ?_ | (refine is_load ?_; refine ld ?_) | (refine is_store ?_; refine sr ?_) | (refine is_alloc ?_; refine al ?_) | (refine is_box ?_; refine bx ?_) | (refine isl_load ?_; refine ldl ?_) | (refine isl_store ?_; refine srl ?_) | (refine isl_alloc ?_; refine all' ?_) | (refine isl_box ?_; refine bxl ?_))
  refine go_loop (G := Nat × AR) [14] (fun ⟨k, _⟩ => [.int .i64 (k : Int)]) [(9, .slice sa a.length cap), (10, ptr p), (11, .int .u32 (t.root : Int)), (13, .slice (some ⟨bk, 0, none⟩) ks.length ck)]
    (fun ⟨k, B⟩ w' => k ≤ ks.length ∧ Nr w w1 lo p q t a (.slice sa a.length cap) bk ks hi w' B ∧ B.reads ≤ 1000 * k) (fun g => ks.length - g.1) (0, B) rfl ⟨rfl, rfl, rfl, rfl, trivial⟩ ⟨by omega, N5, by omega⟩ ?_
  clear N5
  rintro ⟨j, B⟩ w6 ⟨hj, N6, hre⟩
  have hi6 := N6.hs
  have h06 := N6.h0
  have hb6 := N6.hb
  have hf6 := N6.fp
  have hp6 := N6.hp
  replace N6 := N6.up N6.hs (Nat.le_refl _)
  have hso := N6.g.srt
  rw [hen] at hso
  by_cases hlt : j < ks.length
  · obtain ⟨b, o, e0, hcell⟩ := N6.hk j (.int .i64 ks[j]) (by simp [hlt])
    simp only [Option.some.injEq, Addr.mk.injEq, and_true] at e0
    obtain ⟨rfl, rfl⟩ := e0
    generalize ks[j] = k at hcell
    repeat (first | refine sp ?_ | (refine is_load ?_; refine ld ?_) | (refine is_store ?_; refine sr ?_) | (refine is_alloc ?_; refine al ?_) | (refine is_box ?_; refine bx ?_) | (refine isl_load ?_; refine ldl ?_) | (refine isl_store ?_; refine srl ?_) | (refine isl_alloc ?_; refine all' ?_) | (refine isl_box ?_; refine bxl ?_))
    refine go_call rfl rfl (p_Reads w6 lo p q B N6.g.ar) ?_
    rintro _ w6 ⟨rfl, rfl⟩
    repeat (first | refine sp ?_ | (refine is_load ?_; refine ld ?_) | (refine is_store ?_; refine sr ?_) | (refine is_alloc ?_; refine al ?_) | (refine is_box ?_; refine bx ?_) | (refine isl_load ?_; refine ldl ?_) | (refine isl_store ?_; refine srl ?_) | (refine isl_alloc ?_; refine all' ?_) | (refine isl_box ?_; refine bxl ?_))
    refine go_call rfl rfl (c_Floor w6 lo p q B t k N6.g.ar N6.g.inA N6.g.ine N6.g.srt N6.g.sz6) ?_
    rintro _ w0a ⟨rfl, hR0a⟩
    obtain ⟨B10, N0a, hB0a, hf0a⟩ := N6.rd hR0a
    have hl0a := hf0a.size
    have hrd0a := hB0a.le9 (k := 10000) (by omega) (by omega)
    obtain ⟨o0, ho0⟩ : ∃ o, nFl a k = o := ⟨_, rfl⟩
    rw [show (t.ents.filter (pK (fun z => decide (z ≤ k)))).getLast? = o0 by rw [← ho0, hen]; rfl, show entV o0 = .tuple #[.agg ⟨[.int .i64 (o0.getD (0, 0)).1, .int .i64 (o0.getD (0, 0)).2]⟩, .bool o0.isSome] from rfl]
    repeat (first | refine sp ?_ | (refine is_load ?_; refine ld ?_) | (refine is_store ?_; refine sr ?_) | (refine is_alloc ?_; refine al ?_) | (refine is_box ?_; refine bx ?_) | (refine isl_load ?_; refine ldl ?_) | (refine isl_store ?_; refine srl ?_) | (refine isl_alloc ?_; refine all' ?_) | (refine isl_box ?_; refine bxl ?_))
    refine go_name (F := fun w2 => At w2 w0a.heap.size [.int .i64 (o0.getD (0, 0)).1, .int .i64 (o0.getD (0, 0)).2] 35 ∧ Fr (fun b => w6.heap.size ≤ b) w0a w2 ∧ w0a.heap.size + 1 ≤ w2.heap.size) ⟨by (repeat (first | assumption | (refine At.new' (by (first | omega | (simp; done) | (simp; omega))) _ _) | apply At.alloc | apply At.drewN | apply At.setRow | (apply At.setRow_neF; first | assumption | (apply Ne.symm; assumption) | omega) | (apply At.extF; assumption))), by (repeat (first | exact Fr.refl _ _ | assumption | apply Fr.drewN | apply Fr.alloc | (apply Fr.transF; assumption) | (refine Fr.setRow ?_ _ (by first | exact Or.inr (by (first | omega | (simp; done) | (simp; omega))) | (exact Or.inl (by first | assumption | (simp; done))))))), by simp⟩ ?_
    rintro w0b ⟨hcx, hx0b, hl0b⟩
    have N0b := N0a.fr hx0b
    refine go_call rfl rfl (c_refFloor w0b w1.heap.size _ a k N0b.ha (by omega) (by omega)) ?_
    rintro _ w0c ⟨rfl, hx0c⟩
    have N0c := N0b.ext hx0c
    have hl0c := hx0c.size
    replace hcx := hcx.ext hx0c
    rw [← nb_floor hso k, show (a.filter (pK (fun z => decide (z ≤ k)))).getLast? = o0 from ho0, show entV o0 = .tuple #[.agg ⟨[.int .i64 (o0.getD (0, 0)).1, .int .i64 (o0.getD (0, 0)).2]⟩, .bool o0.isSome] from rfl]
    repeat (first | refine sp ?_ | (refine is_load ?_; refine ld ?_) | (refine is_store ?_; refine sr ?_) | (refine is_alloc ?_; refine al ?_) | (refine is_box ?_; refine bx ?_) | (refine isl_load ?_; refine ldl ?_) | (refine isl_store ?_; refine srl ?_) | (refine isl_alloc ?_; refine all' ?_) | (refine isl_box ?_; refine bxl ?_))
    refine go_name (F := fun w2 => At w2 w0a.heap.size [.int .i64 (o0.getD (0, 0)).1, .int .i64 (o0.getD (0, 0)).2] 35 ∧ At w2 w0c.heap.size [.int .i64 (o0.getD (0, 0)).1, .int .i64 (o0.getD (0, 0)).2] 35 ∧ Fr (fun b => w6.heap.size ≤ b) w0c w2 ∧ w0c.heap.size + 1 ≤ w2.heap.size) ⟨by (repeat (first | assumption | (refine At.new' (by (first | omega | (simp; done) | (simp; omega))) _ _) | apply At.alloc | apply At.drewN | apply At.setRow | (apply At.setRow_neF; first | assumption | (apply Ne.symm; assumption) | omega) | (apply At.extF; assumption))), by (repeat (first | assumption | (refine At.new' (by (first | omega | (simp; done) | (simp; omega))) _ _) | apply At.alloc | apply At.drewN | apply At.setRow | (apply At.setRow_neF; first | assumption | (apply Ne.symm; assumption) | omega) | (apply At.extF; assumption))), by (repeat (first | exact Fr.refl _ _ | assumption | apply Fr.drewN | apply Fr.alloc | (apply Fr.transF; assumption) | (refine Fr.setRow ?_ _ (by first | exact Or.inr (by (first | omega | (simp; done) | (simp; omega))) | (exact Or.inl (by first | assumption | (simp; done))))))), by simp⟩ ?_
    clear hcx
    rintro w0d ⟨hcx, hcy, hx0d, hl0d⟩
    obtain ⟨bx, hbx⟩ : ∃ b, w0a.heap.size = b := ⟨_, rfl⟩
    obtain ⟨by_, hby⟩ : ∃ b, w0c.heap.size = b := ⟨_, rfl⟩
    have hbx6 : w6.heap.size ≤ bx := by omega
    have hby6 : w6.heap.size ≤ by_ := by omega
    rw [hbx] at hcx ⊢
    rw [hby] at hcy ⊢
    have N0d := N0c.fr hx0d
    repeat (first | refine sp ?_ | (refine is_load ?_; refine ld ?_) | (refine is_store ?_; refine sr ?_) | (refine is_alloc ?_; refine al ?_) | (refine is_box ?_; refine bx ?_) | (refine isl_load ?_; refine ldl ?_) | (refine isl_store ?_; refine srl ?_) | (refine isl_alloc ?_; refine all' ?_) | (refine isl_box ?_; refine bxl ?_))
    refine go_as 80 (u' := .bool false) rfl (by rw [ent_eq]; rfl) ?_
    repeat (first | refine sp ?_ | (refine is_load ?_; refine ld ?_) | (refine is_store ?_; refine sr ?_) | (refine is_alloc ?_; refine al ?_) | (refine is_box ?_; refine bx ?_) | (refine isl_load ?_; refine ldl ?_) | (refine isl_store ?_; refine srl ?_) | (refine isl_alloc ?_; refine all' ?_) | (refine isl_box ?_; refine bxl ?_))
    refine go_as 85 (u' := .bool false) rfl (by simp) ?_
    repeat (first | refine sp ?_ | (refine is_load ?_; refine ld ?_) | (refine is_store ?_; refine sr ?_) | (refine is_alloc ?_; refine al ?_) | (refine is_box ?_; refine bx ?_) | (refine isl_load ?_; refine ldl ?_) | (refine isl_store ?_; refine srl ?_) | (refine isl_alloc ?_; refine all' ?_) | (refine isl_box ?_; refine bxl ?_))
    refine go_call rfl rfl (c_most9 a.length w0d hmh hm80) ?_
    rintro _ w0e ⟨rfl, hx0e⟩
    have N0e := N0d.ext hx0e
    have hl0e := hx0e.size
    replace hcx := hcx.ext hx0e
    replace hcy := hcy.ext hx0e
    repeat (first | refine sp ?_ | (refine is_load ?_; refine ld ?_) | (refine is_store ?_; refine sr ?_) | (refine is_alloc ?_; refine al ?_) | (refine is_box ?_; refine bx ?_) | (refine isl_load ?_; refine ldl ?_) | (refine isl_store ?_; refine srl ?_) | (refine isl_alloc ?_; refine all' ?_) | (refine isl_box ?_; refine bxl ?_))
    refine go_call rfl rfl (c_Within w0e lo p q B10 B.reads _ N0e.g.ar hrd0a.1 (by omega) (by omega) (by omega)) ?_
    rintro _ w0e ⟨rfl, rfl⟩
    repeat (first | refine sp ?_ | (refine is_load ?_; refine ld ?_) | (refine is_store ?_; refine sr ?_) | (refine is_alloc ?_; refine al ?_) | (refine is_box ?_; refine bx ?_) | (refine isl_load ?_; refine ldl ?_) | (refine isl_store ?_; refine srl ?_) | (refine isl_alloc ?_; refine all' ?_) | (refine isl_box ?_; refine bxl ?_))
    refine go_call rfl rfl (p_Reads w0e lo p q B10 N0e.g.ar) ?_
    rintro _ w0e ⟨rfl, rfl⟩
    repeat (first | refine sp ?_ | (refine is_load ?_; refine ld ?_) | (refine is_store ?_; refine sr ?_) | (refine is_alloc ?_; refine al ?_) | (refine is_box ?_; refine bx ?_) | (refine isl_load ?_; refine ldl ?_) | (refine isl_store ?_; refine srl ?_) | (refine isl_alloc ?_; refine all' ?_) | (refine isl_box ?_; refine bxl ?_))
    refine go_call rfl rfl (c_Ceiling w0e lo p q B10 t k N0e.g.ar N0e.g.inA N0e.g.ine N0e.g.srt N0e.g.sz6) ?_
    rintro _ w1a ⟨rfl, hR1a⟩
    obtain ⟨B11, N1a, hB1a, hf1a⟩ := N0e.rd hR1a
    have hl1a := hf1a.size
    have hrd1a := hB1a.le9 (k := 10000) (by omega) (by omega)
    replace hcx := hcx.fr hf1a (by omega)
    replace hcy := hcy.fr hf1a (by omega)
    obtain ⟨o1, ho1⟩ : ∃ o, nCe a k = o := ⟨_, rfl⟩
    rw [show (t.ents.filter (pK (fun z => decide (k ≤ z)))).head? = o1 by rw [← ho1, hen]; rfl, show entV o1 = .tuple #[.agg ⟨[.int .i64 (o1.getD (0, 0)).1, .int .i64 (o1.getD (0, 0)).2]⟩, .bool o1.isSome] from rfl]
    repeat (first | refine sp ?_ | (refine is_load ?_; refine ld ?_) | (refine is_store ?_; refine sr ?_) | (refine is_alloc ?_; refine al ?_) | (refine is_box ?_; refine bx ?_) | (refine isl_load ?_; refine ldl ?_) | (refine isl_store ?_; refine srl ?_) | (refine isl_alloc ?_; refine all' ?_) | (refine isl_box ?_; refine bxl ?_))
    refine go_name (F := fun w2 => At w2 bx [.int .i64 (o1.getD (0, 0)).1, .int .i64 (o1.getD (0, 0)).2] 35 ∧ At w2 by_ [.int .i64 (o0.getD (0, 0)).1, .int .i64 (o0.getD (0, 0)).2] 35 ∧ Fr (fun b => w6.heap.size ≤ b) w1a w2) ⟨by (repeat (first | assumption | (refine At.new' (by (first | omega | (simp; done) | (simp; omega))) _ _) | apply At.alloc | apply At.drewN | apply At.setRow | (apply At.setRow_neF; first | assumption | (apply Ne.symm; assumption) | omega) | (apply At.extF; assumption))), by (repeat (first | assumption | (refine At.new' (by (first | omega | (simp; done) | (simp; omega))) _ _) | apply At.alloc | apply At.drewN | apply At.setRow | (apply At.setRow_neF; first | assumption | (apply Ne.symm; assumption) | omega) | (apply At.extF; assumption))), by (repeat (first | exact Fr.refl _ _ | assumption | apply Fr.drewN | apply Fr.alloc | (apply Fr.transF; assumption) | (refine Fr.setRow ?_ _ (by first | exact Or.inr (by (first | omega | (simp; done) | (simp; omega))) | (exact Or.inl (by first | assumption | (simp; done)))))))⟩ ?_
    clear hcx hcy
    rintro w1b ⟨hcx, hcy, hx1b⟩
    have hl1b := hx1b.size
    have N1b := N1a.fr hx1b
    refine go_call rfl rfl (c_refCeiling w1b w1.heap.size _ a k N1b.ha (by omega) (by omega)) ?_
    rintro _ w1c ⟨rfl, hx1c⟩
    have N1c := N1b.ext hx1c
    have hl1c := hx1c.size
    replace hcx := hcx.ext hx1c
    replace hcy := hcy.ext hx1c
    rw [← nb_ceiling hso k, show (a.filter (pK (fun z => decide (k ≤ z)))).head? = o1 from ho1, show entV o1 = .tuple #[.agg ⟨[.int .i64 (o1.getD (0, 0)).1, .int .i64 (o1.getD (0, 0)).2]⟩, .bool o1.isSome] from rfl]
    repeat (first | refine sp ?_ | (refine is_load ?_; refine ld ?_) | (refine is_store ?_; refine sr ?_) | (refine is_alloc ?_; refine al ?_) | (refine is_box ?_; refine bx ?_) | (refine isl_load ?_; refine ldl ?_) | (refine isl_store ?_; refine srl ?_) | (refine isl_alloc ?_; refine all' ?_) | (refine isl_box ?_; refine bxl ?_))
    refine go_name (F := fun w2 => At w2 bx [.int .i64 (o1.getD (0, 0)).1, .int .i64 (o1.getD (0, 0)).2] 35 ∧ At w2 by_ [.int .i64 (o1.getD (0, 0)).1, .int .i64 (o1.getD (0, 0)).2] 35 ∧ Fr (fun b => w6.heap.size ≤ b) w1c w2) ⟨by (repeat (first | assumption | (refine At.new' (by (first | omega | (simp; done) | (simp; omega))) _ _) | apply At.alloc | apply At.drewN | apply At.setRow | (apply At.setRow_neF; first | assumption | (apply Ne.symm; assumption) | omega) | (apply At.extF; assumption))), by (repeat (first | assumption | (refine At.new' (by (first | omega | (simp; done) | (simp; omega))) _ _) | apply At.alloc | apply At.drewN | apply At.setRow | (apply At.setRow_neF; first | assumption | (apply Ne.symm; assumption) | omega) | (apply At.extF; assumption))), by (repeat (first | exact Fr.refl _ _ | assumption | apply Fr.drewN | apply Fr.alloc | (apply Fr.transF; assumption) | (refine Fr.setRow ?_ _ (by first | exact Or.inr (by (first | omega | (simp; done) | (simp; omega))) | (exact Or.inl (by first | assumption | (simp; done)))))))⟩ ?_
    clear hcx hcy
    rintro w1d ⟨hcx, hcy, hx1d⟩
    have hl1d := hx1d.size
    have N1d := N1c.fr hx1d
    repeat (first | refine sp ?_ | (refine is_load ?_; refine ld ?_) | (refine is_store ?_; refine sr ?_) | (refine is_alloc ?_; refine al ?_) | (refine is_box ?_; refine bx ?_) | (refine isl_load ?_; refine ldl ?_) | (refine isl_store ?_; refine srl ?_) | (refine isl_alloc ?_; refine all' ?_) | (refine isl_box ?_; refine bxl ?_))
    refine go_as 112 (u' := .bool false) rfl (by rw [ent_eq]; rfl) ?_
    repeat (first | refine sp ?_ | (refine is_load ?_; refine ld ?_) | (refine is_store ?_; refine sr ?_) | (refine is_alloc ?_; refine al ?_) | (refine is_box ?_; refine bx ?_) | (refine isl_load ?_; refine ldl ?_) | (refine isl_store ?_; refine srl ?_) | (refine isl_alloc ?_; refine all' ?_) | (refine isl_box ?_; refine bxl ?_))
    refine go_as 117 (u' := .bool false) rfl (by simp) ?_
    repeat (first | refine sp ?_ | (refine is_load ?_; refine ld ?_) | (refine is_store ?_; refine sr ?_) | (refine is_alloc ?_; refine al ?_) | (refine is_box ?_; refine bx ?_) | (refine isl_load ?_; refine ldl ?_) | (refine isl_store ?_; refine srl ?_) | (refine isl_alloc ?_; refine all' ?_) | (refine isl_box ?_; refine bxl ?_))
    refine go_call rfl rfl (c_most9 a.length w1d hmh hm80) ?_
    rintro _ w1e ⟨rfl, hx1e⟩
    have N1e := N1d.ext hx1e
    have hl1e := hx1e.size
    replace hcx := hcx.ext hx1e
    replace hcy := hcy.ext hx1e
    repeat (first | refine sp ?_ | (refine is_load ?_; refine ld ?_) | (refine is_store ?_; refine sr ?_) | (refine is_alloc ?_; refine al ?_) | (refine is_box ?_; refine bx ?_) | (refine isl_load ?_; refine ldl ?_) | (refine isl_store ?_; refine srl ?_) | (refine isl_alloc ?_; refine all' ?_) | (refine isl_box ?_; refine bxl ?_))
    refine go_call rfl rfl (c_Within w1e lo p q B11 B10.reads _ N1e.g.ar hrd1a.1 (by omega) (by omega) (by omega)) ?_
    rintro _ w1e ⟨rfl, rfl⟩
    repeat (first | refine sp ?_ | (refine is_load ?_; refine ld ?_) | (refine is_store ?_; refine sr ?_) | (refine is_alloc ?_; refine al ?_) | (refine is_box ?_; refine bx ?_) | (refine isl_load ?_; refine ldl ?_) | (refine isl_store ?_; refine srl ?_) | (refine isl_alloc ?_; refine all' ?_) | (refine isl_box ?_; refine bxl ?_))
    refine go_call rfl rfl (p_Reads w1e lo p q B11 N1e.g.ar) ?_
    rintro _ w1e ⟨rfl, rfl⟩
    repeat (first | refine sp ?_ | (refine is_load ?_; refine ld ?_) | (refine is_store ?_; refine sr ?_) | (refine is_alloc ?_; refine al ?_) | (refine is_box ?_; refine bx ?_) | (refine isl_load ?_; refine ldl ?_) | (refine isl_store ?_; refine srl ?_) | (refine isl_alloc ?_; refine all' ?_) | (refine isl_box ?_; refine bxl ?_))
    refine go_call rfl rfl (c_Below w1e lo p q B11 t k N1e.g.ar N1e.g.inA N1e.g.ine N1e.g.srt N1e.g.sz6) ?_
    rintro _ w2a ⟨rfl, hR2a⟩
    obtain ⟨B12, N2a, hB2a, hf2a⟩ := N1e.rd hR2a
    have hl2a := hf2a.size
    have hrd2a := hB2a.le9 (k := 10000) (by omega) (by omega)
    replace hcx := hcx.fr hf2a (by omega)
    replace hcy := hcy.fr hf2a (by omega)
    obtain ⟨o2, ho2⟩ : ∃ o, nBe a k = o := ⟨_, rfl⟩
    rw [show (t.ents.filter (pK (fun z => decide (z < k)))).getLast? = o2 by rw [← ho2, hen]; rfl, show entV o2 = .tuple #[.agg ⟨[.int .i64 (o2.getD (0, 0)).1, .int .i64 (o2.getD (0, 0)).2]⟩, .bool o2.isSome] from rfl]
    repeat (first | refine sp ?_ | (refine is_load ?_; refine ld ?_) | (refine is_store ?_; refine sr ?_) | (refine is_alloc ?_; refine al ?_) | (refine is_box ?_; refine bx ?_) | (refine isl_load ?_; refine ldl ?_) | (refine isl_store ?_; refine srl ?_) | (refine isl_alloc ?_; refine all' ?_) | (refine isl_box ?_; refine bxl ?_))
    refine go_name (F := fun w2 => At w2 bx [.int .i64 (o2.getD (0, 0)).1, .int .i64 (o2.getD (0, 0)).2] 35 ∧ At w2 by_ [.int .i64 (o1.getD (0, 0)).1, .int .i64 (o1.getD (0, 0)).2] 35 ∧ Fr (fun b => w6.heap.size ≤ b) w2a w2) ⟨by (repeat (first | assumption | (refine At.new' (by (first | omega | (simp; done) | (simp; omega))) _ _) | apply At.alloc | apply At.drewN | apply At.setRow | (apply At.setRow_neF; first | assumption | (apply Ne.symm; assumption) | omega) | (apply At.extF; assumption))), by (repeat (first | assumption | (refine At.new' (by (first | omega | (simp; done) | (simp; omega))) _ _) | apply At.alloc | apply At.drewN | apply At.setRow | (apply At.setRow_neF; first | assumption | (apply Ne.symm; assumption) | omega) | (apply At.extF; assumption))), by (repeat (first | exact Fr.refl _ _ | assumption | apply Fr.drewN | apply Fr.alloc | (apply Fr.transF; assumption) | (refine Fr.setRow ?_ _ (by first | exact Or.inr (by (first | omega | (simp; done) | (simp; omega))) | (exact Or.inl (by first | assumption | (simp; done)))))))⟩ ?_
    clear hcx hcy
    rintro w2b ⟨hcx, hcy, hx2b⟩
    have hl2b := hx2b.size
    have N2b := N2a.fr hx2b
    refine go_call rfl rfl (c_refBelow w2b w1.heap.size _ a k N2b.ha (by omega) (by omega)) ?_
    rintro _ w2c ⟨rfl, hx2c⟩
    have N2c := N2b.ext hx2c
    have hl2c := hx2c.size
    replace hcx := hcx.ext hx2c
    replace hcy := hcy.ext hx2c
    rw [← nb_below hso k, show (a.filter (pK (fun z => decide (z < k)))).getLast? = o2 from ho2, show entV o2 = .tuple #[.agg ⟨[.int .i64 (o2.getD (0, 0)).1, .int .i64 (o2.getD (0, 0)).2]⟩, .bool o2.isSome] from rfl]
    repeat (first | refine sp ?_ | (refine is_load ?_; refine ld ?_) | (refine is_store ?_; refine sr ?_) | (refine is_alloc ?_; refine al ?_) | (refine is_box ?_; refine bx ?_) | (refine isl_load ?_; refine ldl ?_) | (refine isl_store ?_; refine srl ?_) | (refine isl_alloc ?_; refine all' ?_) | (refine isl_box ?_; refine bxl ?_))
    refine go_name (F := fun w2 => At w2 bx [.int .i64 (o2.getD (0, 0)).1, .int .i64 (o2.getD (0, 0)).2] 35 ∧ At w2 by_ [.int .i64 (o2.getD (0, 0)).1, .int .i64 (o2.getD (0, 0)).2] 35 ∧ Fr (fun b => w6.heap.size ≤ b) w2c w2) ⟨by (repeat (first | assumption | (refine At.new' (by (first | omega | (simp; done) | (simp; omega))) _ _) | apply At.alloc | apply At.drewN | apply At.setRow | (apply At.setRow_neF; first | assumption | (apply Ne.symm; assumption) | omega) | (apply At.extF; assumption))), by (repeat (first | assumption | (refine At.new' (by (first | omega | (simp; done) | (simp; omega))) _ _) | apply At.alloc | apply At.drewN | apply At.setRow | (apply At.setRow_neF; first | assumption | (apply Ne.symm; assumption) | omega) | (apply At.extF; assumption))), by (repeat (first | exact Fr.refl _ _ | assumption | apply Fr.drewN | apply Fr.alloc | (apply Fr.transF; assumption) | (refine Fr.setRow ?_ _ (by first | exact Or.inr (by (first | omega | (simp; done) | (simp; omega))) | (exact Or.inl (by first | assumption | (simp; done)))))))⟩ ?_
    clear hcx hcy
    rintro w2d ⟨hcx, hcy, hx2d⟩
    have hl2d := hx2d.size
    have N2d := N2c.fr hx2d
    repeat (first | refine sp ?_ | (refine is_load ?_; refine ld ?_) | (refine is_store ?_; refine sr ?_) | (refine is_alloc ?_; refine al ?_) | (refine is_box ?_; refine bx ?_) | (refine isl_load ?_; refine ldl ?_) | (refine isl_store ?_; refine srl ?_) | (refine isl_alloc ?_; refine all' ?_) | (refine isl_box ?_; refine bxl ?_))
    refine go_as 144 (u' := .bool false) rfl (by rw [ent_eq]; rfl) ?_
    repeat (first | refine sp ?_ | (refine is_load ?_; refine ld ?_) | (refine is_store ?_; refine sr ?_) | (refine is_alloc ?_; refine al ?_) | (refine is_box ?_; refine bx ?_) | (refine isl_load ?_; refine ldl ?_) | (refine isl_store ?_; refine srl ?_) | (refine isl_alloc ?_; refine all' ?_) | (refine isl_box ?_; refine bxl ?_))
    refine go_as 149 (u' := .bool false) rfl (by simp) ?_
    repeat (first | refine sp ?_ | (refine is_load ?_; refine ld ?_) | (refine is_store ?_; refine sr ?_) | (refine is_alloc ?_; refine al ?_) | (refine is_box ?_; refine bx ?_) | (refine isl_load ?_; refine ldl ?_) | (refine isl_store ?_; refine srl ?_) | (refine isl_alloc ?_; refine all' ?_) | (refine isl_box ?_; refine bxl ?_))
    refine go_call rfl rfl (c_most9 a.length w2d hmh hm80) ?_
    rintro _ w2e ⟨rfl, hx2e⟩
    have N2e := N2d.ext hx2e
    have hl2e := hx2e.size
    replace hcx := hcx.ext hx2e
    replace hcy := hcy.ext hx2e
    repeat (first | refine sp ?_ | (refine is_load ?_; refine ld ?_) | (refine is_store ?_; refine sr ?_) | (refine is_alloc ?_; refine al ?_) | (refine is_box ?_; refine bx ?_) | (refine isl_load ?_; refine ldl ?_) | (refine isl_store ?_; refine srl ?_) | (refine isl_alloc ?_; refine all' ?_) | (refine isl_box ?_; refine bxl ?_))
    refine go_call rfl rfl (c_Within w2e lo p q B12 B11.reads _ N2e.g.ar hrd2a.1 (by omega) (by omega) (by omega)) ?_
    rintro _ w2e ⟨rfl, rfl⟩
    repeat (first | refine sp ?_ | (refine is_load ?_; refine ld ?_) | (refine is_store ?_; refine sr ?_) | (refine is_alloc ?_; refine al ?_) | (refine is_box ?_; refine bx ?_) | (refine isl_load ?_; refine ldl ?_) | (refine isl_store ?_; refine srl ?_) | (refine isl_alloc ?_; refine all' ?_) | (refine isl_box ?_; refine bxl ?_))
    refine go_call rfl rfl (p_Reads w2e lo p q B12 N2e.g.ar) ?_
    rintro _ w2e ⟨rfl, rfl⟩
    repeat (first | refine sp ?_ | (refine is_load ?_; refine ld ?_) | (refine is_store ?_; refine sr ?_) | (refine is_alloc ?_; refine al ?_) | (refine is_box ?_; refine bx ?_) | (refine isl_load ?_; refine ldl ?_) | (refine isl_store ?_; refine srl ?_) | (refine isl_alloc ?_; refine all' ?_) | (refine isl_box ?_; refine bxl ?_))
    refine go_call rfl rfl (c_Above w2e lo p q B12 t k N2e.g.ar N2e.g.inA N2e.g.ine N2e.g.srt N2e.g.sz6) ?_
    rintro _ w3a ⟨rfl, hR3a⟩
    obtain ⟨B13, N3a, hB3a, hf3a⟩ := N2e.rd hR3a
    have hl3a := hf3a.size
    have hrd3a := hB3a.le9 (k := 10000) (by omega) (by omega)
    replace hcx := hcx.fr hf3a (by omega)
    replace hcy := hcy.fr hf3a (by omega)
    obtain ⟨o3, ho3⟩ : ∃ o, nAb a k = o := ⟨_, rfl⟩
    rw [show (t.ents.filter (pK (fun z => decide (k < z)))).head? = o3 by rw [← ho3, hen]; rfl, show entV o3 = .tuple #[.agg ⟨[.int .i64 (o3.getD (0, 0)).1, .int .i64 (o3.getD (0, 0)).2]⟩, .bool o3.isSome] from rfl]
    repeat (first | refine sp ?_ | (refine is_load ?_; refine ld ?_) | (refine is_store ?_; refine sr ?_) | (refine is_alloc ?_; refine al ?_) | (refine is_box ?_; refine bx ?_) | (refine isl_load ?_; refine ldl ?_) | (refine isl_store ?_; refine srl ?_) | (refine isl_alloc ?_; refine all' ?_) | (refine isl_box ?_; refine bxl ?_))
    refine go_name (F := fun w2 => At w2 bx [.int .i64 (o3.getD (0, 0)).1, .int .i64 (o3.getD (0, 0)).2] 35 ∧ At w2 by_ [.int .i64 (o2.getD (0, 0)).1, .int .i64 (o2.getD (0, 0)).2] 35 ∧ Fr (fun b => w6.heap.size ≤ b) w3a w2) ⟨by (repeat (first | assumption | (refine At.new' (by (first | omega | (simp; done) | (simp; omega))) _ _) | apply At.alloc | apply At.drewN | apply At.setRow | (apply At.setRow_neF; first | assumption | (apply Ne.symm; assumption) | omega) | (apply At.extF; assumption))), by (repeat (first | assumption | (refine At.new' (by (first | omega | (simp; done) | (simp; omega))) _ _) | apply At.alloc | apply At.drewN | apply At.setRow | (apply At.setRow_neF; first | assumption | (apply Ne.symm; assumption) | omega) | (apply At.extF; assumption))), by (repeat (first | exact Fr.refl _ _ | assumption | apply Fr.drewN | apply Fr.alloc | (apply Fr.transF; assumption) | (refine Fr.setRow ?_ _ (by first | exact Or.inr (by (first | omega | (simp; done) | (simp; omega))) | (exact Or.inl (by first | assumption | (simp; done)))))))⟩ ?_
    clear hcx hcy
    rintro w3b ⟨hcx, hcy, hx3b⟩
    have hl3b := hx3b.size
    have N3b := N3a.fr hx3b
    refine go_call rfl rfl (c_refAbove w3b w1.heap.size _ a k N3b.ha (by omega) (by omega)) ?_
    rintro _ w3c ⟨rfl, hx3c⟩
    have N3c := N3b.ext hx3c
    have hl3c := hx3c.size
    replace hcx := hcx.ext hx3c
    replace hcy := hcy.ext hx3c
    rw [← nb_above hso k, show (a.filter (pK (fun z => decide (k < z)))).head? = o3 from ho3, show entV o3 = .tuple #[.agg ⟨[.int .i64 (o3.getD (0, 0)).1, .int .i64 (o3.getD (0, 0)).2]⟩, .bool o3.isSome] from rfl]
    repeat (first | refine sp ?_ | (refine is_load ?_; refine ld ?_) | (refine is_store ?_; refine sr ?_) | (refine is_alloc ?_; refine al ?_) | (refine is_box ?_; refine bx ?_) | (refine isl_load ?_; refine ldl ?_) | (refine isl_store ?_; refine srl ?_) | (refine isl_alloc ?_; refine all' ?_) | (refine isl_box ?_; refine bxl ?_))
    refine go_name (F := fun w2 => At w2 bx [.int .i64 (o3.getD (0, 0)).1, .int .i64 (o3.getD (0, 0)).2] 35 ∧ At w2 by_ [.int .i64 (o3.getD (0, 0)).1, .int .i64 (o3.getD (0, 0)).2] 35 ∧ Fr (fun b => w6.heap.size ≤ b) w3c w2) ⟨by (repeat (first | assumption | (refine At.new' (by (first | omega | (simp; done) | (simp; omega))) _ _) | apply At.alloc | apply At.drewN | apply At.setRow | (apply At.setRow_neF; first | assumption | (apply Ne.symm; assumption) | omega) | (apply At.extF; assumption))), by (repeat (first | assumption | (refine At.new' (by (first | omega | (simp; done) | (simp; omega))) _ _) | apply At.alloc | apply At.drewN | apply At.setRow | (apply At.setRow_neF; first | assumption | (apply Ne.symm; assumption) | omega) | (apply At.extF; assumption))), by (repeat (first | exact Fr.refl _ _ | assumption | apply Fr.drewN | apply Fr.alloc | (apply Fr.transF; assumption) | (refine Fr.setRow ?_ _ (by first | exact Or.inr (by (first | omega | (simp; done) | (simp; omega))) | (exact Or.inl (by first | assumption | (simp; done)))))))⟩ ?_
    clear hcx hcy
    rintro w3d ⟨hcx, hcy, hx3d⟩
    have hl3d := hx3d.size
    have N3d := N3c.fr hx3d
    repeat (first | refine sp ?_ | (refine is_load ?_; refine ld ?_) | (refine is_store ?_; refine sr ?_) | (refine is_alloc ?_; refine al ?_) | (refine is_box ?_; refine bx ?_) | (refine isl_load ?_; refine ldl ?_) | (refine isl_store ?_; refine srl ?_) | (refine isl_alloc ?_; refine all' ?_) | (refine isl_box ?_; refine bxl ?_))
    refine go_as 176 (u' := .bool false) rfl (by rw [ent_eq]; rfl) ?_
    repeat (first | refine sp ?_ | (refine is_load ?_; refine ld ?_) | (refine is_store ?_; refine sr ?_) | (refine is_alloc ?_; refine al ?_) | (refine is_box ?_; refine bx ?_) | (refine isl_load ?_; refine ldl ?_) | (refine isl_store ?_; refine srl ?_) | (refine isl_alloc ?_; refine all' ?_) | (refine isl_box ?_; refine bxl ?_))
    refine go_as 181 (u' := .bool false) rfl (by simp) ?_
    repeat (first | refine sp ?_ | (refine is_load ?_; refine ld ?_) | (refine is_store ?_; refine sr ?_) | (refine is_alloc ?_; refine al ?_) | (refine is_box ?_; refine bx ?_) | (refine isl_load ?_; refine ldl ?_) | (refine isl_store ?_; refine srl ?_) | (refine isl_alloc ?_; refine all' ?_) | (refine isl_box ?_; refine bxl ?_))
    refine go_call rfl rfl (c_most9 a.length w3d hmh hm80) ?_
    rintro _ w3e ⟨rfl, hx3e⟩
    have N3e := N3d.ext hx3e
    have hl3e := hx3e.size
    replace hcx := hcx.ext hx3e
    replace hcy := hcy.ext hx3e
    repeat (first | refine sp ?_ | (refine is_load ?_; refine ld ?_) | (refine is_store ?_; refine sr ?_) | (refine is_alloc ?_; refine al ?_) | (refine is_box ?_; refine bx ?_) | (refine isl_load ?_; refine ldl ?_) | (refine isl_store ?_; refine srl ?_) | (refine isl_alloc ?_; refine all' ?_) | (refine isl_box ?_; refine bxl ?_))
    refine go_call rfl rfl (c_Within w3e lo p q B13 B12.reads _ N3e.g.ar hrd3a.1 (by omega) (by omega) (by omega)) ?_
    rintro _ w3e ⟨rfl, rfl⟩
    repeat (first | refine sp ?_ | (refine is_load ?_; refine ld ?_) | (refine is_store ?_; refine sr ?_) | (refine is_alloc ?_; refine al ?_) | (refine is_box ?_; refine bx ?_) | (refine isl_load ?_; refine ldl ?_) | (refine isl_store ?_; refine srl ?_) | (refine isl_alloc ?_; refine all' ?_) | (refine isl_box ?_; refine bxl ?_))
    exact go_stop (G := Nat × AR) (j + 1, B13) rfl ⟨rfl, rfl, rfl, rfl, trivial⟩ ⟨hlt, ⟨N3e.g, N3e.ha, N3e.hk, Nat.le_trans hi6 N3e.hs, h06, N3e.h1, N3e.hp, hb6, hf6⟩, by omega⟩ (by show ks.length - (j + 1) < ks.length - j; omega)
  · repeat (first | refine sp ?_ | (refine is_load ?_; refine ld ?_) | (refine is_store ?_; refine sr ?_) | (refine is_alloc ?_; refine al ?_) | (refine is_box ?_; refine bx ?_) | (refine isl_load ?_; refine ldl ?_) | (refine isl_store ?_; refine srl ?_) | (refine isl_alloc ?_; refine all' ?_) | (refine isl_box ?_; refine bxl ?_))
    exact go_ret1 rfl rfl ⟨_, rfl, rfl, N6.g.ext⟩

end Go.Proofs.Ytgafapifpoinlaa
