/-
  The law on exact searches.
-/
import Derived.Test.YtgafapifpoinlaaLr
import Derived.Test.YtgafapifpoinlaaGt
set_option linter.unusedVariables false
namespace Go.Proofs.Ytgafapifpoinlaa
open Go.Vc

set_option maxHeartbeats 8000000 in
theorem c_LawGets (lv : Value) (l : List (Int × Int)) (tilt x : Int) (w : World) (h : Rd w 0 lv entC l) (he : InE l) (hlen : l.length ≤ 9223372036854775807) (ht : 0 ≤ tilt ∧ tilt ≤ 18446744073709551615) (hx : InV x) :
    Calls Try.prog 12 [lv, .int .u64 tilt, .int .i64 x].toArray w (Ret fun v w' => v = .bool true ∧ Ext w w') := by
  unfold InV at hx
  refine calls_go Try.func12 rfl Try.ntmps12 (Nat.le_of_ble_eq_true rfl) ?_
  repeat (first | refine sp ?_ | (refine is_load ?_; refine ld ?_) | (refine is_store ?_; refine sr ?_) | (refine is_alloc ?_; refine al ?_) | (refine is_box ?_; refine bx ?_) | (refine isl_load ?_; refine ldl ?_) | (refine isl_store ?_; refine srl ?_) | (refine isl_alloc ?_; refine all' ?_) | (refine isl_box ?_; refine bxl ?_) | refine dr Try.follows ?_)
  refine go_call rfl rfl (c_List w lv l 120 h.up he hlen (by omega)) ?_
  rintro v1 w1 ⟨a, ha, hok, hx1⟩
  obtain ⟨sa, cap, rfl, hlc, _, _⟩ := ha
  have ha : RdU w1 w1.heap.size (.slice sa a.length cap) entC a := ⟨sa, cap, rfl, hlc, by assumption, by assumption⟩
  repeat (first | refine sp ?_ | (refine is_load ?_; refine ld ?_) | (refine is_store ?_; refine sr ?_) | (refine is_alloc ?_; refine al ?_) | (refine is_box ?_; refine bx ?_) | (refine isl_load ?_; refine ldl ?_) | (refine isl_store ?_; refine srl ?_) | (refine isl_alloc ?_; refine all' ?_) | (refine isl_box ?_; refine bxl ?_) | refine dr Try.follows ?_)
  refine go_call rfl rfl (c_GrowT w w1 a 120 _ tilt 1 ha hok (by omega) (by omega) (by omega) ht hx1) ?_
  rintro _ w2 ⟨lo, p, q, B, t, rfl, g, hen, hsz, hre, hcp, hpb, hx2⟩
  repeat (first | refine sp ?_ | (refine is_load ?_; refine ld ?_) | (refine is_store ?_; refine sr ?_) | (refine is_alloc ?_; refine al ?_) | (refine is_box ?_; refine bx ?_) | (refine isl_load ?_; refine ldl ?_) | (refine isl_store ?_; refine srl ?_) | (refine isl_alloc ?_; refine all' ?_) | (refine isl_box ?_; refine bxl ?_) | refine dr Try.follows ?_)
  refine go_call rfl rfl (c_awake9 w2) ?_
  rintro _ w3 ⟨rfl, hx3⟩
  have g3 := g.step hx3
  have hal := hok.len
  obtain ⟨m, hmh, hm80, hht⟩ := g3.hgt' hsz
  have N3 := Gt.of g3 ((ha.ext hx2).ext hx3) hpb
  have hso := g3.srt
  rw [hen] at hso
  repeat (first | refine sp ?_ | (refine is_load ?_; refine ld ?_) | (refine is_store ?_; refine sr ?_) | (refine is_alloc ?_; refine al ?_) | (refine is_box ?_; refine bx ?_) | (refine isl_load ?_; refine ldl ?_) | (refine isl_store ?_; refine srl ?_) | (refine isl_alloc ?_; refine all' ?_) | (refine isl_box ?_; refine bxl ?_) | refine dr Try.follows ?_)
  refine go_call rfl rfl (p_Dump w3 lo p q B g3.ar) ?_
  rintro _ w4 ⟨hd4, hx4⟩
  obtain ⟨s1, c1, s2, c2, rfl, d1, d2⟩ := hd4.b
  have hd4' : DpB w4 w3.heap.size w4.heap.size (.agg ⟨[.slice s1 B.dump.slots.length c1, .slice s2 B.dump.free.length c2]⟩) B.dump := ⟨s1, c1, s2, c2, rfl, d1, d2⟩
  have hp3 := N3.hp
  have hl4 := hx4.size
  have N4 := (N3.ext hx4).up w4.heap.size hl4 (Nat.le_refl _) _ hd4' (Stb.dp (by omega) (Nat.le_refl _))
  repeat (first | refine sp ?_ | (refine is_load ?_; refine ld ?_) | (refine is_store ?_; refine sr ?_) | (refine is_alloc ?_; refine al ?_) | (refine is_box ?_; refine bx ?_) | (refine isl_load ?_; refine ldl ?_) | (refine isl_store ?_; refine srl ?_) | (refine isl_alloc ?_; refine all' ?_) | (refine isl_box ?_; refine bxl ?_) | refine dr Try.follows ?_)
  refine go_litG (l := [.int .i64 x]) rfl rfl (by decide) (by decide) rfl ?_
  repeat (first | refine sp ?_ | (refine is_load ?_; refine ld ?_) | (refine is_store ?_; refine sr ?_) | (refine is_alloc ?_; refine al ?_) | (refine is_box ?_; refine bx ?_) | (refine isl_load ?_; refine ldl ?_) | (refine isl_store ?_; refine srl ?_) | (refine isl_alloc ?_; refine all' ?_) | (refine isl_box ?_; refine bxl ?_))
  refine go_name (F := fun w5 => At w5 w4.heap.size [.slice s1 B.dump.slots.length c1, .slice s2 B.dump.free.length c2] 60 ∧ Ext w4 w5 ∧ Own w5 (w4.heap.size + 1) 2 1 (.slice (some ⟨w4.heap.size + 1, 0, none⟩) 1 1) 1 ([x].map fun x => .int .i64 x)) ⟨by (repeat (first | assumption | (refine At.new' (by (first | omega | (simp; done) | (simp; omega))) _ _) | apply At.alloc | apply At.drewN | apply At.setRow | (apply At.setRow_neF; first | assumption | (apply Ne.symm; assumption) | omega) | (apply At.extF; assumption))), by (repeat (first | exact Fr.refl _ _ | assumption | apply Fr.drewN | apply Fr.alloc | (apply Fr.transF; assumption) | (refine Fr.setRow ?_ _ (by first | exact Or.inr (by (first | omega | (simp; done) | (simp; omega))) | (exact Or.inl (by first | assumption | (simp; done))))))), Own.of_block1 (C := []) rfl (Nat.le_refl _) (by simpa using (At.new' (by simp) _ _)) (by decide) rfl⟩ ?_
  rintro w5 ⟨hbd, hx5, hk5⟩
  refine go_as 12 (u' := .slice (some ⟨w4.heap.size + 1, 0, none⟩) 1 1) rfl (by simp) ?_
  refine go_loop (G := Nat × Value × List Int) [12, 13] (fun ⟨k, v, _⟩ => [v, .int .i64 (k : Int)]) [(7, .slice sa a.length cap), (8, ptr p), (9, .int .u32 (t.root : Int)), (11, ptr w4.heap.size)]
    (fun ⟨k, v, ks⟩ w' => k ≤ 130 ∧ ks.length ≤ k + 1 ∧ 1 ≤ ks.length ∧ Ext w4 w' ∧ At w' w4.heap.size [.slice s1 B.dump.slots.length c1, .slice s2 B.dump.free.length c2] 60 ∧ Own w' (w4.heap.size + 1) 2 1 v ks.length (ks.map fun x => .int .i64 x) ∧ w4.heap.size + 1 ≤ w'.heap.size) (fun g => a.length - g.1) (0, .slice (some ⟨w4.heap.size + 1, 0, none⟩) 1 1, [x]) rfl ⟨rfl, rfl, rfl, rfl, trivial⟩ ⟨by omega, by simp, by simp, hx5, hbd, hk5, hbd.lt⟩ ?_
  clear hbd hk5 hx5
  rintro ⟨k, v, ks⟩ w6 ⟨hk, hkl, hk1, hx6, hbd, hk6, hl6⟩
  have N6 := N4.ext hx6
  by_cases hlt : k < a.length
  · obtain ⟨b, o, es, hbl, hcell⟩ := N6.ha.at (m := 2) (fun _ => rfl) (by omega) hlt
    subst es
    have e0 := hcell 0 (.int .i64 a[k].1) rfl
    generalize a[k].1 = z at e0
    repeat (first | refine sp ?_ | (refine is_load ?_; refine ld ?_) | (refine is_store ?_; refine sr ?_) | (refine is_alloc ?_; refine al ?_) | (refine is_box ?_; refine bx ?_) | (refine isl_load ?_; refine ldl ?_) | (refine isl_store ?_; refine srl ?_) | (refine isl_alloc ?_; refine all' ?_) | (refine isl_box ?_; refine bxl ?_))
    refine go_pushG (l := [.int .i64 z]) (by decide) rfl rfl rfl rfl hk6 rfl (by simp [Value.oneCell']) (by omega) (by simp [maxLen]; omega) (by omega) (by omega) ?_
    intro v7 w7 ho7 hg7 _
    have hx7 : Ext w4 w7 := ext_grown hx6 (by omega) hk6 hg7
    have hl7 := hg7.size
    have hbd7 := hbd.fr (Fr.of_grown hg7) (fun e => by have := (World.ownsRow.lt hk6 _ e).1; omega)
    repeat (first | refine sp ?_ | (refine is_load ?_; refine ld ?_) | (refine is_store ?_; refine sr ?_) | (refine is_alloc ?_; refine al ?_) | (refine is_box ?_; refine bx ?_) | (refine isl_load ?_; refine ldl ?_) | (refine isl_store ?_; refine srl ?_) | (refine isl_alloc ?_; refine all' ?_) | (refine isl_box ?_; refine bxl ?_))
    exact go_stop (G := Nat × Value × List Int) (k + 7, v7, ks ++ [z]) rfl ⟨rfl, rfl, rfl, rfl, trivial⟩ ⟨by omega, by simp; omega, by simp, hx7, hbd7, by simpa using ho7, by omega⟩ (by show a.length - (k + 7) < a.length - k; omega)
  repeat (first | refine sp ?_ | (refine is_load ?_; refine ld ?_) | (refine is_store ?_; refine sr ?_) | (refine is_alloc ?_; refine al ?_) | (refine is_box ?_; refine bx ?_) | (refine isl_load ?_; refine ldl ?_) | (refine isl_store ?_; refine srl ?_) | (refine isl_alloc ?_; refine all' ?_) | (refine isl_box ?_; refine bxl ?_))
  obtain ⟨gk, ck, C, rfl, hgl, hatk, _, _, _, _⟩ := hk6.block1 (by omega)
  have hrk : RdC w6 (some ⟨gk, 0, none⟩) (ks.map fun x => .int .i64 x) := by
    intro jj y hy
    refine ⟨_, _, rfl, ?_⟩
    have := hatk.cell (i := jj) (v := y) (by rw [List.getElem?_append_left (by have := (List.getElem?_eq_some_iff.1 hy).1; simpa using this)]; simpa using hy)
    simpa using this
  have hgkl := hatk.lt
  replace N6 := N6.up w6.heap.size hx6.size (Nat.le_refl _) (fun w => At w w4.heap.size [.slice s1 B.dump.slots.length c1, .slice s2 B.dump.free.length c2] 60 ∧ RdC w (some ⟨gk, 0, none⟩) (ks.map fun x => .int .i64 x)) ⟨hbd, hrk⟩ (Stb.and (Stb.at (by omega) (by omega)) (Stb.rdc (by omega) (by omega)))
  obtain ⟨hi, hhi⟩ : ∃ hi, w6.heap.size = hi := ⟨_, rfl⟩
  rw [hhi] at N6
  refine go_loop (G := Nat × AR) [14] (fun ⟨k, _⟩ => [.int .i64 (k : Int)]) [(7, .slice sa a.length cap), (8, ptr p), (9, .int .u32 (t.root : Int)), (11, ptr w4.heap.size), (12, .slice (some ⟨gk, 0, none⟩) ks.length ck)]
    (fun ⟨k, B'⟩ w' => k ≤ ks.length ∧ Gt w w1 lo p q t a (.slice sa a.length cap) hi (fun w_1 => (True ∧ DpB w_1 w3.heap.size w4.heap.size (.agg ⟨[.slice s1 B.dump.slots.length c1, .slice s2 B.dump.free.length c2]⟩) B.dump) ∧ At w_1 w4.heap.size [.slice s1 B.dump.slots.length c1, .slice s2 B.dump.free.length c2] 60 ∧ RdC w_1 (some ⟨gk, 0, none⟩) (ks.map fun x => .int .i64 x)) w' B' ∧ B'.reads ≤ 1000 * k ∧ B'.dump = B.dump) (fun g => ks.length - g.1) (0, B) rfl ⟨rfl, rfl, rfl, rfl, rfl, trivial⟩ ⟨by omega, N6, by omega, rfl⟩ ?_
  clear N6 hbd hk6 hatk hrk
  rintro ⟨k, B'⟩ w7 ⟨hk7, N7, hre7, hdp⟩
  by_cases hlt : k < ks.length
  · repeat (first | refine sp ?_ | (refine is_load ?_; refine ld ?_) | (refine is_store ?_; refine sr ?_) | (refine is_alloc ?_; refine al ?_) | (refine is_box ?_; refine bx ?_) | (refine isl_load ?_; refine ldl ?_) | (refine isl_store ?_; refine srl ?_) | (refine isl_alloc ?_; refine all' ?_) | (refine isl_box ?_; refine bxl ?_))
    refine go_call rfl rfl (p_Reads w7 lo p q B' N7.g.ar) ?_
    rintro _ w7 ⟨rfl, rfl⟩
    obtain ⟨b, o, e0, hcell⟩ := N7.hF.2.2 k (.int .i64 ks[k]) (by simp [hlt])
    simp only [Option.some.injEq, Addr.mk.injEq, and_true] at e0
    obtain ⟨rfl, rfl⟩ := e0
    obtain ⟨y, hy⟩ : ∃ y, ks[k] = y := ⟨_, rfl⟩
    rw [hy] at hcell
    repeat (first | refine sp ?_ | (refine is_load ?_; refine ld ?_) | (refine is_store ?_; refine sr ?_) | (refine is_alloc ?_; refine al ?_) | (refine is_box ?_; refine bx ?_) | (refine isl_load ?_; refine ldl ?_) | (refine isl_store ?_; refine srl ?_) | (refine isl_alloc ?_; refine all' ?_) | (refine isl_box ?_; refine bxl ?_))
    refine go_call rfl rfl (c_Get w7 lo p q B' t y N7.g.ar N7.g.inA N7.g.ine N7.g.srt N7.g.sz6) ?_
    rintro _ w8 ⟨rfl, hR8⟩
    obtain ⟨B8, N8, hB8, hf8⟩ := N7.rd hR8
    have hrd := hB8.leq (k := 1000000) (by omega) (by omega)
    obtain ⟨b, o, e0, hcell8⟩ := N8.hF.2.2 k (.int .i64 ks[k]) (by simp [hlt])
    simp only [Option.some.injEq, Addr.mk.injEq, and_true] at e0
    obtain ⟨rfl, rfl⟩ := e0
    rw [hy] at hcell8
    obtain ⟨o1, ho1⟩ : ∃ o, getE a y = o := ⟨_, rfl⟩
    rw [hen, ho1, show getV o1 = .tuple #[.int .i64 (o1.getD 0), .bool o1.isSome] from rfl]
    repeat (first | refine sp ?_ | (refine is_load ?_; refine ld ?_) | (refine is_store ?_; refine sr ?_) | (refine is_alloc ?_; refine al ?_) | (refine is_box ?_; refine bx ?_) | (refine isl_load ?_; refine ldl ?_) | (refine isl_store ?_; refine srl ?_) | (refine isl_alloc ?_; refine all' ?_) | (refine isl_box ?_; refine bxl ?_))
    refine go_call rfl rfl (c_refGet w8 w1.heap.size _ a y N8.ha (by omega)) ?_
    rintro _ w8 ⟨rfl, rfl⟩
    rw [ho1, show getV o1 = .tuple #[.int .i64 (o1.getD 0), .bool o1.isSome] from rfl]
    repeat (first | refine sp ?_ | (refine is_load ?_; refine ld ?_) | (refine is_store ?_; refine sr ?_) | (refine is_alloc ?_; refine al ?_) | (refine is_box ?_; refine bx ?_) | (refine isl_load ?_; refine ldl ?_) | (refine isl_store ?_; refine srl ?_) | (refine isl_alloc ?_; refine all' ?_) | (refine isl_box ?_; refine bxl ?_))
    refine go_as 93 (u' := .bool false) rfl (by simp) ?_
    repeat (first | refine sp ?_ | (refine is_load ?_; refine ld ?_) | (refine is_store ?_; refine sr ?_) | (refine is_alloc ?_; refine al ?_) | (refine is_box ?_; refine bx ?_) | (refine isl_load ?_; refine ldl ?_) | (refine isl_store ?_; refine srl ?_) | (refine isl_alloc ?_; refine all' ?_) | (refine isl_box ?_; refine bxl ?_))
    refine go_call rfl rfl (c_most9 a.length w8 hmh hm80) ?_
    rintro _ w9 ⟨rfl, hx9⟩
    have N9 := N8.ext hx9
    repeat (first | refine sp ?_ | (refine is_load ?_; refine ld ?_) | (refine is_store ?_; refine sr ?_) | (refine is_alloc ?_; refine al ?_) | (refine is_box ?_; refine bx ?_) | (refine isl_load ?_; refine ldl ?_) | (refine isl_store ?_; refine srl ?_) | (refine isl_alloc ?_; refine all' ?_) | (refine isl_box ?_; refine bxl ?_))
    refine go_call rfl rfl (c_Within w9 lo p q B8 B'.reads _ N9.g.ar hrd.1 (by omega) (by omega) (by omega)) ?_
    rintro _ w9 ⟨rfl, rfl⟩
    repeat (first | refine sp ?_ | (refine is_load ?_; refine ld ?_) | (refine is_store ?_; refine sr ?_) | (refine is_alloc ?_; refine al ?_) | (refine is_box ?_; refine bx ?_) | (refine isl_load ?_; refine ldl ?_) | (refine isl_store ?_; refine srl ?_) | (refine isl_alloc ?_; refine all' ?_) | (refine isl_box ?_; refine bxl ?_))
    exact go_stop (G := Nat × AR) (k + 1, B8) rfl ⟨rfl, rfl, rfl, rfl, rfl, trivial⟩ ⟨hlt, N9, by omega, by rw [hB8.dumpE, hdp]⟩ (by show ks.length - (k + 1) < ks.length - k; omega)
  repeat (first | refine sp ?_ | (refine is_load ?_; refine ld ?_) | (refine is_store ?_; refine sr ?_) | (refine is_alloc ?_; refine al ?_) | (refine is_box ?_; refine bx ?_) | (refine isl_load ?_; refine ldl ?_) | (refine isl_store ?_; refine srl ?_) | (refine isl_alloc ?_; refine all' ?_) | (refine isl_box ?_; refine bxl ?_))
  refine go_call rfl rfl (p_Reads w7 lo p q B' N7.g.ar) ?_
  rintro _ w7 ⟨rfl, rfl⟩
  repeat (first | refine sp ?_ | (refine is_load ?_; refine ld ?_) | (refine is_store ?_; refine sr ?_) | (refine is_alloc ?_; refine al ?_) | (refine is_box ?_; refine bx ?_) | (refine isl_load ?_; refine ldl ?_) | (refine isl_store ?_; refine srl ?_) | (refine isl_alloc ?_; refine all' ?_) | (refine isl_box ?_; refine bxl ?_))
  refine go_call rfl rfl (c_First w7 lo p q B' t N7.g.ar N7.g.inA N7.g.ine N7.g.srt N7.g.sz6) ?_
  rintro _ w8 ⟨rfl, hR8⟩
  obtain ⟨B8, N8, hB8, hf8⟩ := N7.rd hR8
  have hrd := hB8.leq (k := 1000000) (by omega) (by omega)
  obtain ⟨o1, ho1⟩ : ∃ o, a.head? = o := ⟨_, rfl⟩
  have ho1' : entAt a 0 = o1 := by rw [← ho1]; cases a <;> rfl
  rw [hen, ho1, show entV o1 = .tuple #[.agg ⟨[.int .i64 (o1.getD (0, 0)).1, .int .i64 (o1.getD (0, 0)).2]⟩, .bool o1.isSome] from rfl]
  have hi8 := N8.hs
  repeat (first | refine sp ?_ | (refine is_load ?_; refine ld ?_) | (refine is_store ?_; refine sr ?_) | (refine is_alloc ?_; refine al ?_) | (refine is_box ?_; refine bx ?_) | (refine isl_load ?_; refine ldl ?_) | (refine isl_store ?_; refine srl ?_) | (refine isl_alloc ?_; refine all' ?_) | (refine isl_box ?_; refine bxl ?_))
  refine go_name (F := fun w9 => At w9 w8.heap.size [.int .i64 (o1.getD (0, 0)).1, .int .i64 (o1.getD (0, 0)).2] 35 ∧ Ext w8 w9 ∧ w8.heap.size + 1 ≤ w9.heap.size) ⟨by (repeat (first | assumption | (refine At.new' (by (first | omega | (simp; done) | (simp; omega))) _ _) | apply At.alloc | apply At.drewN | apply At.setRow | (apply At.setRow_neF; first | assumption | (apply Ne.symm; assumption) | omega) | (apply At.extF; assumption))), by (repeat (first | exact Fr.refl _ _ | assumption | apply Fr.drewN | apply Fr.alloc | (apply Fr.transF; assumption) | (refine Fr.setRow ?_ _ (by first | exact Or.inr (by (first | omega | (simp; done) | (simp; omega))) | (exact Or.inl (by first | assumption | (simp; done))))))), by simp⟩ ?_
  rintro w9 ⟨hcx, hx9, hl9⟩
  have N9 := N8.ext hx9
  refine go_call rfl rfl (c_refSelect w9 w1.heap.size _ a 0 N9.ha (by have := N9.h1; have := N9.hp; have := N9.hs; omega) (by omega)) ?_
  rintro _ w10 ⟨rfl, hx10⟩
  have N10 := N9.ext hx10
  replace hcx := hcx.ext hx10
  have hl10 := hx10.size
  rw [ho1', show entV o1 = .tuple #[.agg ⟨[.int .i64 (o1.getD (0, 0)).1, .int .i64 (o1.getD (0, 0)).2]⟩, .bool o1.isSome] from rfl]
  repeat (first | refine sp ?_ | (refine is_load ?_; refine ld ?_) | (refine is_store ?_; refine sr ?_) | (refine is_alloc ?_; refine al ?_) | (refine is_box ?_; refine bx ?_) | (refine isl_load ?_; refine ldl ?_) | (refine isl_store ?_; refine srl ?_) | (refine isl_alloc ?_; refine all' ?_) | (refine isl_box ?_; refine bxl ?_))
  refine go_name (F := fun w11 => At w11 w8.heap.size [.int .i64 (o1.getD (0, 0)).1, .int .i64 (o1.getD (0, 0)).2] 35 ∧ At w11 w10.heap.size [.int .i64 (o1.getD (0, 0)).1, .int .i64 (o1.getD (0, 0)).2] 35 ∧ Ext w10 w11 ∧ w10.heap.size + 1 ≤ w11.heap.size) ⟨by (repeat (first | assumption | (refine At.new' (by (first | omega | (simp; done) | (simp; omega))) _ _) | apply At.alloc | apply At.drewN | apply At.setRow | (apply At.setRow_neF; first | assumption | (apply Ne.symm; assumption) | omega) | (apply At.extF; assumption))), by (repeat (first | assumption | (refine At.new' (by (first | omega | (simp; done) | (simp; omega))) _ _) | apply At.alloc | apply At.drewN | apply At.setRow | (apply At.setRow_neF; first | assumption | (apply Ne.symm; assumption) | omega) | (apply At.extF; assumption))), by (repeat (first | exact Fr.refl _ _ | assumption | apply Fr.drewN | apply Fr.alloc | (apply Fr.transF; assumption) | (refine Fr.setRow ?_ _ (by first | exact Or.inr (by (first | omega | (simp; done) | (simp; omega))) | (exact Or.inl (by first | assumption | (simp; done))))))), by simp⟩ ?_
  clear hcx
  rintro w11 ⟨hcx, hcy, hx11, hl11⟩
  have N11 := N10.ext hx11
  have hpb8 := N8.hp
  have hbx : hi ≤ w8.heap.size := hi8
  have hby : hi ≤ w10.heap.size := by omega
  generalize w8.heap.size = bx at *
  generalize w10.heap.size = by_ at *
  repeat (first | refine sp ?_ | (refine is_load ?_; refine ld ?_) | (refine is_store ?_; refine sr ?_) | (refine is_alloc ?_; refine al ?_) | (refine is_box ?_; refine bx ?_) | (refine isl_load ?_; refine ldl ?_) | (refine isl_store ?_; refine srl ?_) | (refine isl_alloc ?_; refine all' ?_) | (refine isl_box ?_; refine bxl ?_))
  refine go_as 118 (u' := .bool false) rfl (by rw [ent_eq']; rfl) ?_
  repeat (first | refine sp ?_ | (refine is_load ?_; refine ld ?_) | (refine is_store ?_; refine sr ?_) | (refine is_alloc ?_; refine al ?_) | (refine is_box ?_; refine bx ?_) | (refine isl_load ?_; refine ldl ?_) | (refine isl_store ?_; refine srl ?_) | (refine isl_alloc ?_; refine all' ?_) | (refine isl_box ?_; refine bxl ?_))
  refine go_as 123 (u' := .bool false) rfl (by simp) ?_
  repeat (first | refine sp ?_ | (refine is_load ?_; refine ld ?_) | (refine is_store ?_; refine sr ?_) | (refine is_alloc ?_; refine al ?_) | (refine is_box ?_; refine bx ?_) | (refine isl_load ?_; refine ldl ?_) | (refine isl_store ?_; refine srl ?_) | (refine isl_alloc ?_; refine all' ?_) | (refine isl_box ?_; refine bxl ?_))
  refine go_call rfl rfl (c_most9 a.length w11 hmh hm80) ?_
  rintro _ w12 ⟨rfl, hx12⟩
  have N12 := N11.ext hx12
  replace hcx := hcx.ext hx12
  replace hcy := hcy.ext hx12
  repeat (first | refine sp ?_ | (refine is_load ?_; refine ld ?_) | (refine is_store ?_; refine sr ?_) | (refine is_alloc ?_; refine al ?_) | (refine is_box ?_; refine bx ?_) | (refine isl_load ?_; refine ldl ?_) | (refine isl_store ?_; refine srl ?_) | (refine isl_alloc ?_; refine all' ?_) | (refine isl_box ?_; refine bxl ?_))
  refine go_call rfl rfl (c_Within w12 lo p q B8 B'.reads _ N12.g.ar hrd.1 (by omega) (by omega) (by omega)) ?_
  rintro _ w12 ⟨rfl, rfl⟩
  repeat (first | refine sp ?_ | (refine is_load ?_; refine ld ?_) | (refine is_store ?_; refine sr ?_) | (refine is_alloc ?_; refine al ?_) | (refine is_box ?_; refine bx ?_) | (refine isl_load ?_; refine ldl ?_) | (refine isl_store ?_; refine srl ?_) | (refine isl_alloc ?_; refine all' ?_) | (refine isl_box ?_; refine bxl ?_))
  refine go_call rfl rfl (p_Reads w12 lo p q B8 N12.g.ar) ?_
  rintro _ w12 ⟨rfl, rfl⟩
  repeat (first | refine sp ?_ | (refine is_load ?_; refine ld ?_) | (refine is_store ?_; refine sr ?_) | (refine is_alloc ?_; refine al ?_) | (refine is_box ?_; refine bx ?_) | (refine isl_load ?_; refine ldl ?_) | (refine isl_store ?_; refine srl ?_) | (refine isl_alloc ?_; refine all' ?_) | (refine isl_box ?_; refine bxl ?_))
  refine go_call rfl rfl (c_Last w12 lo p q B8 t N12.g.ar N12.g.inA N12.g.ine N12.g.srt N12.g.sz6) ?_
  rintro _ w13 ⟨rfl, hR13⟩
  obtain ⟨B13, N13, hB13, hf13⟩ := N12.rd hR13
  have hrd2 := hB13.leq (k := 1000000) (by omega) (by omega)
  replace hcx := hcx.fr hf13 (by omega)
  replace hcy := hcy.fr hf13 (by omega)
  obtain ⟨o2, ho2⟩ : ∃ o, a.getLast? = o := ⟨_, rfl⟩
  have ho2' : entAt a ((a.length : Int) - 1) = o2 := by rw [← ho2, ← take_last (Nat.le_refl _), List.take_length]
  rw [hen, ho2, show entV o2 = .tuple #[.agg ⟨[.int .i64 (o2.getD (0, 0)).1, .int .i64 (o2.getD (0, 0)).2]⟩, .bool o2.isSome] from rfl]
  repeat (first | refine sp ?_ | (refine is_load ?_; refine ld ?_) | (refine is_store ?_; refine sr ?_) | (refine is_alloc ?_; refine al ?_) | (refine is_box ?_; refine bx ?_) | (refine isl_load ?_; refine ldl ?_) | (refine isl_store ?_; refine srl ?_) | (refine isl_alloc ?_; refine all' ?_) | (refine isl_box ?_; refine bxl ?_))
  refine go_name (F := fun w14 => At w14 bx [.int .i64 (o2.getD (0, 0)).1, .int .i64 (o2.getD (0, 0)).2] 35 ∧ At w14 by_ [.int .i64 (o1.getD (0, 0)).1, .int .i64 (o1.getD (0, 0)).2] 35 ∧ Fr (fun b => hi ≤ b) w13 w14) ⟨by (repeat (first | assumption | (refine At.new' (by (first | omega | (simp; done) | (simp; omega))) _ _) | apply At.alloc | apply At.drewN | apply At.setRow | (apply At.setRow_neF; first | assumption | (apply Ne.symm; assumption) | omega) | (apply At.extF; assumption))), by (repeat (first | assumption | (refine At.new' (by (first | omega | (simp; done) | (simp; omega))) _ _) | apply At.alloc | apply At.drewN | apply At.setRow | (apply At.setRow_neF; first | assumption | (apply Ne.symm; assumption) | omega) | (apply At.extF; assumption))), by (repeat (first | exact Fr.refl _ _ | assumption | apply Fr.drewN | apply Fr.alloc | (apply Fr.transF; assumption) | (refine Fr.setRow ?_ _ (by first | exact Or.inr (by (first | omega | (simp; done) | (simp; omega))) | (exact Or.inl (by first | assumption | (simp; done)))))))⟩ ?_
  clear hcx hcy
  rintro w14 ⟨hcx, hcy, hx14⟩
  have N14 := N13.fr hx14
  refine go_call rfl rfl (c_refSelect w14 w1.heap.size _ a _ N14.ha (by have := N14.h1; have := N14.hp; have := N14.hs; omega) (by omega)) ?_
  rintro _ w15 ⟨rfl, hx15⟩
  have N15 := N14.ext hx15
  replace hcx := hcx.ext hx15
  replace hcy := hcy.ext hx15
  rw [ho2', show entV o2 = .tuple #[.agg ⟨[.int .i64 (o2.getD (0, 0)).1, .int .i64 (o2.getD (0, 0)).2]⟩, .bool o2.isSome] from rfl]
  repeat (first | refine sp ?_ | (refine is_load ?_; refine ld ?_) | (refine is_store ?_; refine sr ?_) | (refine is_alloc ?_; refine al ?_) | (refine is_box ?_; refine bx ?_) | (refine isl_load ?_; refine ldl ?_) | (refine isl_store ?_; refine srl ?_) | (refine isl_alloc ?_; refine all' ?_) | (refine isl_box ?_; refine bxl ?_))
  refine go_name (F := fun w16 => At w16 bx [.int .i64 (o2.getD (0, 0)).1, .int .i64 (o2.getD (0, 0)).2] 35 ∧ At w16 by_ [.int .i64 (o2.getD (0, 0)).1, .int .i64 (o2.getD (0, 0)).2] 35 ∧ Fr (fun b => hi ≤ b) w15 w16) ⟨by (repeat (first | assumption | (refine At.new' (by (first | omega | (simp; done) | (simp; omega))) _ _) | apply At.alloc | apply At.drewN | apply At.setRow | (apply At.setRow_neF; first | assumption | (apply Ne.symm; assumption) | omega) | (apply At.extF; assumption))), by (repeat (first | assumption | (refine At.new' (by (first | omega | (simp; done) | (simp; omega))) _ _) | apply At.alloc | apply At.drewN | apply At.setRow | (apply At.setRow_neF; first | assumption | (apply Ne.symm; assumption) | omega) | (apply At.extF; assumption))), by (repeat (first | exact Fr.refl _ _ | assumption | apply Fr.drewN | apply Fr.alloc | (apply Fr.transF; assumption) | (refine Fr.setRow ?_ _ (by first | exact Or.inr (by (first | omega | (simp; done) | (simp; omega))) | (exact Or.inl (by first | assumption | (simp; done)))))))⟩ ?_
  clear hcx hcy
  rintro w16 ⟨hcx, hcy, hx16⟩
  have N16 := N15.fr hx16
  refine go_drawE (Fr (fun _ => False) w16) 0 Try.follows (by kernel_rfl) (by kernel_rfl) (by kernel_rfl) ((Fr.refl _ _).drewN 1) ?_
  repeat (first | refine sp ?_ | (refine is_load ?_; refine ld ?_) | (refine is_store ?_; refine sr ?_) | (refine is_alloc ?_; refine al ?_) | (refine is_box ?_; refine bx ?_) | (refine isl_load ?_; refine ldl ?_) | (refine isl_store ?_; refine srl ?_) | (refine isl_alloc ?_; refine all' ?_) | (refine isl_box ?_; refine bxl ?_))
  refine go_as 151 (u' := .bool true) rfl (by rw [ent_eq']) ?_
  repeat (first | refine sp ?_ | (refine is_load ?_; refine ld ?_) | (refine is_store ?_; refine sr ?_) | (refine is_alloc ?_; refine al ?_) | (refine is_box ?_; refine bx ?_) | (refine isl_load ?_; refine ldl ?_) | (refine isl_store ?_; refine srl ?_) | (refine isl_alloc ?_; refine all' ?_) | (refine isl_box ?_; refine bxl ?_))
  refine go_as 156 (u' := .bool true) rfl (by simp) ?_
  repeat (first | refine sp ?_ | (refine is_load ?_; refine ld ?_) | (refine is_store ?_; refine sr ?_) | (refine is_alloc ?_; refine al ?_) | (refine is_box ?_; refine bx ?_) | (refine isl_load ?_; refine ldl ?_) | (refine isl_store ?_; refine srl ?_) | (refine isl_alloc ?_; refine all' ?_) | (refine isl_box ?_; refine bxl ?_))
  refine gol_call rfl rfl (c_most9 a.length _ hmh hm80) ?_
  rintro _ w17 ⟨rfl, hx17⟩
  have hx17' : Ext w16 w17 := Fr.trans ((Fr.refl _ _).drewN 1) hx17
  refine ⟨hx17', ?_⟩
  have N17 := N16.ext hx17'
  repeat (first | refine sp ?_ | (refine is_load ?_; refine ld ?_) | (refine is_store ?_; refine sr ?_) | (refine is_alloc ?_; refine al ?_) | (refine is_box ?_; refine bx ?_) | (refine isl_load ?_; refine ldl ?_) | (refine isl_store ?_; refine srl ?_) | (refine isl_alloc ?_; refine all' ?_) | (refine isl_box ?_; refine bxl ?_))
  refine gol_call rfl rfl (c_Within w17 lo p q B13 B8.reads _ N17.g.ar hrd2.1 (by omega) (by omega) (by omega)) ?_
  rintro _ w17 ⟨rfl, rfl⟩
  refine ⟨hx17', ?_⟩
  repeat (first | refine sp ?_ | (refine is_load ?_; refine ld ?_) | (refine is_store ?_; refine sr ?_) | (refine is_alloc ?_; refine al ?_) | (refine is_box ?_; refine bx ?_) | (refine isl_load ?_; refine ldl ?_) | (refine isl_store ?_; refine srl ?_) | (refine isl_alloc ?_; refine all' ?_) | (refine isl_box ?_; refine bxl ?_))
  refine gol_call rfl rfl (p_Dump w17 lo p q B13 N17.g.ar) ?_
  rintro _ w18 ⟨hd18, hx18⟩
  refine ⟨hx17'.trans hx18, ?_⟩
  have N18 := N17.ext hx18
  have hdE : B13.dump = B.dump := by rw [hB13.dumpE, hB8.dumpE, hdp]
  have hdl := dump_len N17.g.ar.wf
  rw [hdE] at hd18 hdl
  have hd19 := hd18
  obtain ⟨sv8, fv8, rfl, _, _⟩ := hd18
  have hbdF := N16.hF.2.1
  repeat (first | refine sp ?_ | (refine is_load ?_; refine ld ?_) | (refine is_store ?_; refine sr ?_) | (refine is_alloc ?_; refine al ?_) | (refine is_box ?_; refine bx ?_) | (refine isl_load ?_; refine ldl ?_) | (refine isl_store ?_; refine srl ?_) | (refine isl_alloc ?_; refine all' ?_) | (refine isl_box ?_; refine bxl ?_))
  refine gol_call rfl rfl (c_SameDump w18 _ _ _ _ B.dump hd19 (N18.hF.1.2.dp (by have := hx6.size; have := N18.hs; omega)) hdl.1 hdl.2) ?_
  rintro _ w19 ⟨rfl, hx19⟩
  refine ⟨(hx17'.trans hx18).trans hx19, ?_⟩
  repeat (first | refine sp ?_ | (refine is_load ?_; refine ld ?_) | (refine is_store ?_; refine sr ?_) | (refine is_alloc ?_; refine al ?_) | (refine is_box ?_; refine bx ?_) | (refine isl_load ?_; refine ldl ?_) | (refine isl_store ?_; refine srl ?_) | (refine isl_alloc ?_; refine all' ?_) | (refine isl_box ?_; refine bxl ?_))
  exact go_ret1 rfl rfl ⟨_, rfl, rfl, N18.g.ext.trans hx19⟩

end Go.Proofs.Ytgafapifpoinlaa
