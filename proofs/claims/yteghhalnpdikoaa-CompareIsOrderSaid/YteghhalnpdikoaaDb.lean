/-
  Two trees in one arena.
-/
import Derived.Test.YteghhalnpdikoaaCz
import Derived.Test.YteghhalnpdikoaaDa
import Derived.Test.YteghhalnpdikoaaMod
import Derived.Test.YteghhalnpdikoaaPg
set_option linter.unusedVariables false
namespace Go.Vc
section
variable {P : Program} {n : Nat} {k : List It} {st : St} {w : World} {fn : Func} {R : Ending → World → Prop} {v1 v2 v3 v4 v5 v6 : Value}
theorem go_ret6 {r1 r2 r3 r4 r5 r6 : ResultVar} (hr : fn.results = #[r1, r2, r3, r4, r5, r6]) (h1 : ResV P st w r1 v1) (h2 : ResV P st w r2 v2) (h3 : ResV P st w r3 v3) (h4 : ResV P st w r4 v4) (h5 : ResV P st w r5 v5) (h6 : ResV P st w r6 v6) (hR : R (.returned (.tuple #[v1, v2, v3, v4, v5, v6])) w) : Go P n (bodyPost P fn R) (.code .ret :: k) st w :=
  go_ret fun a ha => ⟨ha.dfr, _, by
    have e1 := resV_run (P := P) ha h1
    have e2 := resV_run (P := P) ha h2
    have e3 := resV_run (P := P) ha h3
    have e4 := resV_run (P := P) ha h4
    have e5 := resV_run (P := P) ha h5
    have e6 := resV_run (P := P) ha h6
    simp only [results_resOf, hr]
    simp only [List.mapM_toArray, List.mapM_cons, List.mapM_nil, Sem.run_bind, Sem.run_map, e1, e2, e3, e4, e5, e6, Result.andThen_ok, bind_pure_comp, map_pure]
    simp, hR⟩
end
end Go.Vc
namespace Go.Proofs.Yteghhalnpdikoaa
open Go.Vc

structure Two (w0 w : World) (lo p : Nat) (q : AP) (B : AR) (t u : Tr) (a b : List (Int × Int)) (lv mv : Value) : Prop where
  ar : ArP w lo p q B
  it : InA B t
  iu : InA B u
  et : t.ents = a
  eu : u.ents = b
  oa : OkL a 80
  ob : OkL b 81
  ra : RdU w lo lv entC a
  rb : RdU w lo mv entC b
  lof : ∀ x, q.fp x → lo ≤ x
  low : lo ≤ w.heap.size ∧ w0.heap.size ≤ lo
  ext : Ext w0 w

theorem Two.step {w0 w w' : World} {lo p : Nat} {q : AP} {B : AR} {t u : Tr} {a b : List (Int × Int)} {lv mv : Value} (h : Two w0 w lo p q B t u a b lv mv) (f : Ext w w') : Two w0 w' lo p q B t u a b lv mv :=
  ⟨h.ar.ext f, h.it, h.iu, h.et, h.eu, h.oa, h.ob, h.ra.ext f, h.rb.ext f, h.lof, ⟨Nat.le_trans h.low.1 f.size, h.low.2⟩, h.ext.trans f⟩
theorem Two.rd {w0 w w' : World} {lo p : Nat} {q : AP} {B : AR} {t u : Tr} {a b : List (Int × Int)} {lv mv : Value} (h : Two w0 w lo p q B t u a b lv mv) (g : ∃ B', ArP w' lo p q B' ∧ (∃ n, Rds B B' n) ∧ Fr (fun x => x = p) w w') : ∃ B', Two w0 w' lo p q B' t u a b lv mv ∧ (∃ n, Rds B B' n) ∧ Fr (fun x => x = p) w w' := by
  obtain ⟨B', ha, ⟨n, hn⟩, f⟩ := g
  have hp := h.lof p h.ar.fpp
  have := h.low
  exact ⟨B', ⟨ha, hn.inA h.it, hn.inA h.iu, h.et, h.eu, h.oa, h.ob, h.ra.fr f (fun x hx e => by omega), h.rb.fr f (fun x hx e => by omega), h.lof, ⟨Nat.le_trans h.low.1 f.size, h.low.2⟩, h.ext.trans' f fun x hx e => by omega⟩, ⟨n, hn⟩, f⟩
theorem Two.ts {w0 w : World} {lo p : Nat} {q : AP} {B : AR} {t u : Tr} {a b : List (Int × Int)} {lv mv : Value} (h : Two w0 w lo p q B t u a b lv mv) : t.sz = a.length ∧ u.sz = b.length ∧ a.length ≤ 80 ∧ b.length ≤ 81 := by
  have h1 := t.len
  have h2 := u.len
  rw [h.et] at h1
  rw [h.eu] at h2
  exact ⟨h1.symm, h2.symm, h.oa.len, h.ob.len⟩

theorem Plt.keep {A B : AR} {t s : Tr} {l : List (Int × Int)} (h : Plt A B t l) (hw : Wf A) (hi : InA A s) : InA B s :=
  hi.keep fun i hi => by
    have := hw.uf i hi
    have := h.old i this.1 this.2
    exact ⟨this.1.trans hi, this.2.1⟩

theorem OkL.filter {l : List (Int × Int)} {m : Nat} (h : OkL l m) (f : Int × Int → Bool) : OkL (l.filter f) m :=
  ⟨List.Pairwise.filter _ h.srt, fun e he => h.ine e (List.mem_filter.1 he).1, Nat.le_trans (List.length_filter_le _ _) h.len⟩
theorem OkL.ins {l : List (Int × Int)} {m : Nat} (h : OkL l m) {e : Int × Int} (he : InV e.1 ∧ InV e.2) : OkL (ins l e) (m + 1) :=
  ⟨ins_srt h.srt, fun x hx => by
    rcases insGo_mem hx with rfl | hx
    · exact he
    · exact h.ine x hx, by
    have h1 := insGo_len (e := e) l false
    have h2 := h.len
    simp at h1
    unfold Go.Proofs.Yteghhalnpdikoaa.ins
    omega⟩
theorem OkL.mono {l : List (Int × Int)} {m n : Nat} (h : OkL l m) (hn : m ≤ n) : OkL l n := ⟨h.srt, h.ine, Nat.le_trans h.len hn⟩

theorem wrap_u64b (z : Int) : 0 ≤ IntKind.u64.wrap z ∧ IntKind.u64.wrap z ≤ 18446744073709551615 := wrap_u64_bd z

set_option maxHeartbeats 4000000 in
theorem c_pair (w : World) (rv ov : Value) (r o : List (Int × Int)) (tilt kind at' : Int) (hr : Rd w 0 rv entC r) (ho : Rd w 0 ov entC o) (hri : InE r) (hoi : InE o) (hrl : r.length ≤ 9223372036854775807) (hol : o.length ≤ 9223372036854775807) (ht : 0 ≤ tilt ∧ tilt ≤ 18446744073709551615) (hk : 0 ≤ kind ∧ kind ≤ 255) (hat : -9223372036854775808 ≤ at' ∧ at' ≤ 9223372036854775807) :
    Calls Try.prog 18 [rv, ov, .int .u64 tilt, .int .u8 kind, .int .i64 at'].toArray w (Ret fun x w' => ∃ lo p q B t u a b lv mv, x = .tuple #[ptr p, .int .u32 (t.root : Int), .int .u32 (u.root : Int), lv, mv, .bool true] ∧ Two w w' lo p q B t u a b lv mv ∧ B.reads = 0) := by
  have m1 := Int.emod_nonneg kind (show (4 : Int) ≠ 0 by omega)
  have m2 := Int.emod_lt_of_pos kind (show (0 : Int) < 4 by omega)
  obtain ⟨so, co, rfl, hco, _, _⟩ := id ho.up
  refine calls_go Try.func18 rfl Try.ntmps18 (Nat.le_of_ble_eq_true rfl) ?_
  repeat (first | refine sp ?_ | (refine is_load ?_; refine ld ?_) | (refine is_store ?_; refine sr ?_) | (refine is_alloc ?_; refine al ?_) | (refine is_box ?_; refine bx ?_) | (refine isl_load ?_; refine ldl ?_) | (refine isl_store ?_; refine srl ?_) | (refine isl_alloc ?_; refine all' ?_) | (refine isl_box ?_; refine bxl ?_))
  refine go_call rfl rfl (c_List w rv r 80 hr.up hri hrl (by omega)) ?_
  rintro v1 w1 ⟨a, hra, hoa, hx1⟩
  repeat (first | refine sp ?_ | (refine is_load ?_; refine ld ?_) | (refine is_store ?_; refine sr ?_) | (refine is_alloc ?_; refine al ?_) | (refine is_box ?_; refine bx ?_) | (refine isl_load ?_; refine ldl ?_) | (refine isl_store ?_; refine srl ?_) | (refine isl_alloc ?_; refine all' ?_) | (refine isl_box ?_; refine bxl ?_))
  refine go_call rfl rfl (c_List w1 _ o 80 (ho.up.ext hx1 |>.mono hx1.size) hoi hol (by omega)) ?_
  rintro v2 w2 ⟨b0, hrb0, hob0, hx2⟩
  have hx12 := hx1.trans hx2
  replace hra := (hra.ext hx2).mono hx2.size
  obtain ⟨sa0, ca0, rfl, hca0, _, _⟩ := id hra
  obtain ⟨sb0, cb0, rfl, hcb0, _, _⟩ := id hrb0
  have hla0 := hoa.len
  have hm : ∀ x : Int × Int, (entC x).length = 2 := fun _ => rfl
  have hlb0 := hob0.len
  have hla := hoa.len
  rcases (show kind % 4 = 0 ∨ kind % 4 = 1 ∨ kind % 4 = 2 ∨ kind % 4 = 3 by omega) with hk4 | hk4 | hk4 | hk4
  · have hx3 := hx12
    have hrb := hrb0
    have hob := hob0.mono (show 80 ≤ 81 by omega)
    have hlb := hob.len
    have t1 := wrap_u64b (IntKind.u64.wrap (tilt * 3) + 1)
    repeat (first | refine sp ?_ | (refine is_load ?_; refine ld ?_) | (refine is_store ?_; refine sr ?_) | (refine is_alloc ?_; refine al ?_) | (refine is_box ?_; refine bx ?_) | (refine isl_load ?_; refine ldl ?_) | (refine isl_store ?_; refine srl ?_) | (refine isl_alloc ?_; refine all' ?_) | (refine isl_box ?_; refine bxl ?_))
    refine go_as 69 (u' := .int .i64 ((a.length + b0.length + 1 : Nat) : Int)) rfl (by congr 1) ?_
    refine go_call rfl rfl (p_New w2 (a.length + b0.length + 1) (by omega) (by omega)) ?_
    rintro _ w4 ⟨p, q, rfl, ha4, hq4, hx4⟩
    have hs3 := hx3.size
    repeat (first | refine sp ?_ | (refine is_load ?_; refine ld ?_) | (refine is_store ?_; refine sr ?_) | (refine is_alloc ?_; refine al ?_) | (refine is_box ?_; refine bx ?_) | (refine isl_load ?_; refine ldl ?_) | (refine isl_store ?_; refine srl ?_) | (refine isl_alloc ?_; refine all' ?_) | (refine isl_box ?_; refine bxl ?_))
    refine go_call rfl rfl (c_Plant (a.length + 1) a _ tilt w4 w2.heap.size p q _ (by omega) (by omega) ht ha4 rfl (by show 0 + a.length ≤ a.length + b0.length + 1; omega) hx4.size hq4 (hra.ext hx4)) ?_
    rintro _ w5 ⟨B5, t5, q5, rfl, ha5, hp5, hq5, hf5⟩
    have hc5 := hp5.cap
    have hF5 := hp5.fresh
    have hc5 : B5.cap = a.length + b0.length + 1 := hc5
    have hF5 : B5.fresh = 0 + a.length := hF5
    repeat (first | refine sp ?_ | (refine is_load ?_; refine ld ?_) | (refine is_store ?_; refine sr ?_) | (refine is_alloc ?_; refine al ?_) | (refine is_box ?_; refine bx ?_) | (refine isl_load ?_; refine ldl ?_) | (refine isl_store ?_; refine srl ?_) | (refine isl_alloc ?_; refine all' ?_) | (refine isl_box ?_; refine bxl ?_))
    refine go_call rfl rfl (c_Plant (b0.length + 1) b0 _ _ w5 w2.heap.size p q5 _ (by omega) (by omega) t1 ha5 hp5.rel (by omega) (Nat.le_trans hx4.size hf5.size) hq5 ((hrb.ext hx4).frL hf5)) ?_
    rintro _ w6 ⟨B6, t6, q6, rfl, ha6, hp6, hq6, hf6⟩
    repeat (first | refine sp ?_ | (refine is_load ?_; refine ld ?_) | (refine is_store ?_; refine sr ?_) | (refine is_alloc ?_; refine al ?_) | (refine is_box ?_; refine bx ?_) | (refine isl_load ?_; refine ldl ?_) | (refine isl_store ?_; refine srl ?_) | (refine isl_alloc ?_; refine all' ?_) | (refine isl_box ?_; refine bxl ?_))
    exact go_ret6 rfl rfl rfl rfl rfl rfl rfl ⟨_, rfl, w2.heap.size, p, q6, B6, t5, t6, a, b0, _, _, rfl, ⟨ha6, hp6.keep ha5.wf hp5.inA, hp6.inA, hp5.ent, hp6.ent, hoa, hob, ((hra.ext hx4).frL hf5).frL hf6, ((hrb.ext hx4).frL hf5).frL hf6, hq6, ⟨Nat.le_trans (Nat.le_trans hx4.size hf5.size) hf6.size, hs3⟩, (hx3.trans hx4).trans' (hf5.trans hf6) fun x hx e => by omega⟩, (hp6.reads.trans hp5.reads).trans rfl⟩
  · by_cases h0 : 0 < o.length
    · obtain ⟨bk, oo, e, hbl, hcell⟩ := ((ho.up.ext hx12).mono hx12.size).at hm (by omega) h0
      subst e
      have hme := hoi _ (List.getElem_mem h0)
      generalize o[0] = e at *
      repeat (first | refine sp ?_ | (refine is_load ?_; refine ld ?_) | (refine is_store ?_; refine sr ?_) | (refine is_alloc ?_; refine al ?_) | (refine is_box ?_; refine bx ?_) | (refine isl_load ?_; refine ldl ?_) | (refine isl_store ?_; refine srl ?_) | (refine isl_alloc ?_; refine all' ?_) | (refine isl_box ?_; refine bxl ?_))
      refine go_load (v := .agg (entC e).toArray) rfl rfl (ld_cells (m := 2) rfl (by decide) fun j u hj => by rw [addr_add]; have := hcell j u hj; simpa using this) ?_
      refine go_call rfl rfl (c_Insert w2 w2.heap.size _ a e hra (Nat.le_refl _) (by omega)) ?_
      rintro v3 w3 ⟨ho3, hx23⟩
      have hx3 := hx12.trans hx23
      replace hra := (hra.ext hx23).mono hx23.size
      have hrb := ho3.rd.up
      have hob := hoa.ins hme
      obtain ⟨s3, c3, rfl, _, _⟩ := id hrb
      have hlb := hob.len
      have t1 := wrap_u64b (IntKind.u64.wrap (tilt * 3) + 1)
      repeat (first | refine sp ?_ | (refine is_load ?_; refine ld ?_) | (refine is_store ?_; refine sr ?_) | (refine is_alloc ?_; refine al ?_) | (refine is_box ?_; refine bx ?_) | (refine isl_load ?_; refine ldl ?_) | (refine isl_store ?_; refine srl ?_) | (refine isl_alloc ?_; refine all' ?_) | (refine isl_box ?_; refine bxl ?_))
      refine go_as 69 (u' := .int .i64 ((a.length + (ins a e).length + 1 : Nat) : Int)) rfl (by congr 1) ?_
      refine go_call rfl rfl (p_New w3 (a.length + (ins a e).length + 1) (by omega) (by omega)) ?_
      rintro _ w4 ⟨p, q, rfl, ha4, hq4, hx4⟩
      have hs3 := hx3.size
      repeat (first | refine sp ?_ | (refine is_load ?_; refine ld ?_) | (refine is_store ?_; refine sr ?_) | (refine is_alloc ?_; refine al ?_) | (refine is_box ?_; refine bx ?_) | (refine isl_load ?_; refine ldl ?_) | (refine isl_store ?_; refine srl ?_) | (refine isl_alloc ?_; refine all' ?_) | (refine isl_box ?_; refine bxl ?_))
      refine go_call rfl rfl (c_Plant (a.length + 1) a _ tilt w4 w3.heap.size p q _ (by omega) (by omega) ht ha4 rfl (by show 0 + a.length ≤ a.length + (ins a e).length + 1; omega) hx4.size hq4 (hra.ext hx4)) ?_
      rintro _ w5 ⟨B5, t5, q5, rfl, ha5, hp5, hq5, hf5⟩
      have hc5 := hp5.cap
      have hF5 := hp5.fresh
      have hc5 : B5.cap = a.length + (ins a e).length + 1 := hc5
      have hF5 : B5.fresh = 0 + a.length := hF5
      repeat (first | refine sp ?_ | (refine is_load ?_; refine ld ?_) | (refine is_store ?_; refine sr ?_) | (refine is_alloc ?_; refine al ?_) | (refine is_box ?_; refine bx ?_) | (refine isl_load ?_; refine ldl ?_) | (refine isl_store ?_; refine srl ?_) | (refine isl_alloc ?_; refine all' ?_) | (refine isl_box ?_; refine bxl ?_))
      refine go_call rfl rfl (c_Plant ((ins a e).length + 1) (ins a e) _ _ w5 w3.heap.size p q5 _ (by omega) (by omega) t1 ha5 hp5.rel (by omega) (Nat.le_trans hx4.size hf5.size) hq5 ((hrb.ext hx4).frL hf5)) ?_
      rintro _ w6 ⟨B6, t6, q6, rfl, ha6, hp6, hq6, hf6⟩
      repeat (first | refine sp ?_ | (refine is_load ?_; refine ld ?_) | (refine is_store ?_; refine sr ?_) | (refine is_alloc ?_; refine al ?_) | (refine is_box ?_; refine bx ?_) | (refine isl_load ?_; refine ldl ?_) | (refine isl_store ?_; refine srl ?_) | (refine isl_alloc ?_; refine all' ?_) | (refine isl_box ?_; refine bxl ?_))
      exact go_ret6 rfl rfl rfl rfl rfl rfl rfl ⟨_, rfl, w3.heap.size, p, q6, B6, t5, t6, a, (ins a e), _, _, rfl, ⟨ha6, hp6.keep ha5.wf hp5.inA, hp6.inA, hp5.ent, hp6.ent, hoa, hob, ((hra.ext hx4).frL hf5).frL hf6, ((hrb.ext hx4).frL hf5).frL hf6, hq6, ⟨Nat.le_trans (Nat.le_trans hx4.size hf5.size) hf6.size, hs3⟩, (hx3.trans hx4).trans' (hf5.trans hf6) fun x hx e => by omega⟩, (hp6.reads.trans hp5.reads).trans rfl⟩
    · repeat (first | refine sp ?_ | (refine is_load ?_; refine ld ?_) | (refine is_store ?_; refine sr ?_) | (refine is_alloc ?_; refine al ?_) | (refine is_box ?_; refine bx ?_) | (refine isl_load ?_; refine ldl ?_) | (refine isl_store ?_; refine srl ?_) | (refine isl_alloc ?_; refine all' ?_) | (refine isl_box ?_; refine bxl ?_))
      have hx3 := hx12
      have hrb := hra
      have hob := hoa.mono (show 80 ≤ 81 by omega)
      have hlb := hob.len
      have t1 := wrap_u64b (IntKind.u64.wrap (tilt * 3) + 1)
      repeat (first | refine sp ?_ | (refine is_load ?_; refine ld ?_) | (refine is_store ?_; refine sr ?_) | (refine is_alloc ?_; refine al ?_) | (refine is_box ?_; refine bx ?_) | (refine isl_load ?_; refine ldl ?_) | (refine isl_store ?_; refine srl ?_) | (refine isl_alloc ?_; refine all' ?_) | (refine isl_box ?_; refine bxl ?_))
      refine go_as 69 (u' := .int .i64 ((a.length + a.length + 1 : Nat) : Int)) rfl (by congr 1) ?_
      refine go_call rfl rfl (p_New w2 (a.length + a.length + 1) (by omega) (by omega)) ?_
      rintro _ w4 ⟨p, q, rfl, ha4, hq4, hx4⟩
      have hs3 := hx3.size
      repeat (first | refine sp ?_ | (refine is_load ?_; refine ld ?_) | (refine is_store ?_; refine sr ?_) | (refine is_alloc ?_; refine al ?_) | (refine is_box ?_; refine bx ?_) | (refine isl_load ?_; refine ldl ?_) | (refine isl_store ?_; refine srl ?_) | (refine isl_alloc ?_; refine all' ?_) | (refine isl_box ?_; refine bxl ?_))
      refine go_call rfl rfl (c_Plant (a.length + 1) a _ tilt w4 w2.heap.size p q _ (by omega) (by omega) ht ha4 rfl (by show 0 + a.length ≤ a.length + a.length + 1; omega) hx4.size hq4 (hra.ext hx4)) ?_
      rintro _ w5 ⟨B5, t5, q5, rfl, ha5, hp5, hq5, hf5⟩
      have hc5 := hp5.cap
      have hF5 := hp5.fresh
      have hc5 : B5.cap = a.length + a.length + 1 := hc5
      have hF5 : B5.fresh = 0 + a.length := hF5
      repeat (first | refine sp ?_ | (refine is_load ?_; refine ld ?_) | (refine is_store ?_; refine sr ?_) | (refine is_alloc ?_; refine al ?_) | (refine is_box ?_; refine bx ?_) | (refine isl_load ?_; refine ldl ?_) | (refine isl_store ?_; refine srl ?_) | (refine isl_alloc ?_; refine all' ?_) | (refine isl_box ?_; refine bxl ?_))
      refine go_call rfl rfl (c_Plant (a.length + 1) a _ _ w5 w2.heap.size p q5 _ (by omega) (by omega) t1 ha5 hp5.rel (by omega) (Nat.le_trans hx4.size hf5.size) hq5 ((hrb.ext hx4).frL hf5)) ?_
      rintro _ w6 ⟨B6, t6, q6, rfl, ha6, hp6, hq6, hf6⟩
      repeat (first | refine sp ?_ | (refine is_load ?_; refine ld ?_) | (refine is_store ?_; refine sr ?_) | (refine is_alloc ?_; refine al ?_) | (refine is_box ?_; refine bx ?_) | (refine isl_load ?_; refine ldl ?_) | (refine isl_store ?_; refine srl ?_) | (refine isl_alloc ?_; refine all' ?_) | (refine isl_box ?_; refine bxl ?_))
      exact go_ret6 rfl rfl rfl rfl rfl rfl rfl ⟨_, rfl, w2.heap.size, p, q6, B6, t5, t6, a, a, _, _, rfl, ⟨ha6, hp6.keep ha5.wf hp5.inA, hp6.inA, hp5.ent, hp6.ent, hoa, hob, ((hra.ext hx4).frL hf5).frL hf6, ((hrb.ext hx4).frL hf5).frL hf6, hq6, ⟨Nat.le_trans (Nat.le_trans hx4.size hf5.size) hf6.size, hs3⟩, (hx3.trans hx4).trans' (hf5.trans hf6) fun x hx e => by omega⟩, (hp6.reads.trans hp5.reads).trans rfl⟩
  · repeat (first | refine sp ?_ | (refine is_load ?_; refine ld ?_) | (refine is_store ?_; refine sr ?_) | (refine is_alloc ?_; refine al ?_) | (refine is_box ?_; refine bx ?_) | (refine isl_load ?_; refine ldl ?_) | (refine isl_store ?_; refine srl ?_) | (refine isl_alloc ?_; refine all' ?_) | (refine isl_box ?_; refine bxl ?_))
    have hx3 := hx12
    have hrb := hra
    have hob := hoa.mono (show 80 ≤ 81 by omega)
    have hlb := hob.len
    have t1 := wrap_u64b (IntKind.u64.wrap (tilt * 3) + 1)
    repeat (first | refine sp ?_ | (refine is_load ?_; refine ld ?_) | (refine is_store ?_; refine sr ?_) | (refine is_alloc ?_; refine al ?_) | (refine is_box ?_; refine bx ?_) | (refine isl_load ?_; refine ldl ?_) | (refine isl_store ?_; refine srl ?_) | (refine isl_alloc ?_; refine all' ?_) | (refine isl_box ?_; refine bxl ?_))
    refine go_as 69 (u' := .int .i64 ((a.length + a.length + 1 : Nat) : Int)) rfl (by congr 1) ?_
    refine go_call rfl rfl (p_New w2 (a.length + a.length + 1) (by omega) (by omega)) ?_
    rintro _ w4 ⟨p, q, rfl, ha4, hq4, hx4⟩
    have hs3 := hx3.size
    repeat (first | refine sp ?_ | (refine is_load ?_; refine ld ?_) | (refine is_store ?_; refine sr ?_) | (refine is_alloc ?_; refine al ?_) | (refine is_box ?_; refine bx ?_) | (refine isl_load ?_; refine ldl ?_) | (refine isl_store ?_; refine srl ?_) | (refine isl_alloc ?_; refine all' ?_) | (refine isl_box ?_; refine bxl ?_))
    refine go_call rfl rfl (c_Plant (a.length + 1) a _ tilt w4 w2.heap.size p q _ (by omega) (by omega) ht ha4 rfl (by show 0 + a.length ≤ a.length + a.length + 1; omega) hx4.size hq4 (hra.ext hx4)) ?_
    rintro _ w5 ⟨B5, t5, q5, rfl, ha5, hp5, hq5, hf5⟩
    have hc5 := hp5.cap
    have hF5 := hp5.fresh
    have hc5 : B5.cap = a.length + a.length + 1 := hc5
    have hF5 : B5.fresh = 0 + a.length := hF5
    repeat (first | refine sp ?_ | (refine is_load ?_; refine ld ?_) | (refine is_store ?_; refine sr ?_) | (refine is_alloc ?_; refine al ?_) | (refine is_box ?_; refine bx ?_) | (refine isl_load ?_; refine ldl ?_) | (refine isl_store ?_; refine srl ?_) | (refine isl_alloc ?_; refine all' ?_) | (refine isl_box ?_; refine bxl ?_))
    refine go_call rfl rfl (c_Plant (a.length + 1) a _ _ w5 w2.heap.size p q5 _ (by omega) (by omega) t1 ha5 hp5.rel (by omega) (Nat.le_trans hx4.size hf5.size) hq5 ((hrb.ext hx4).frL hf5)) ?_
    rintro _ w6 ⟨B6, t6, q6, rfl, ha6, hp6, hq6, hf6⟩
    repeat (first | refine sp ?_ | (refine is_load ?_; refine ld ?_) | (refine is_store ?_; refine sr ?_) | (refine is_alloc ?_; refine al ?_) | (refine is_box ?_; refine bx ?_) | (refine isl_load ?_; refine ldl ?_) | (refine isl_store ?_; refine srl ?_) | (refine isl_alloc ?_; refine all' ?_) | (refine isl_box ?_; refine bxl ?_))
    exact go_ret6 rfl rfl rfl rfl rfl rfl rfl ⟨_, rfl, w2.heap.size, p, q6, B6, t5, t6, a, a, _, _, rfl, ⟨ha6, hp6.keep ha5.wf hp5.inA, hp6.inA, hp5.ent, hp6.ent, hoa, hob, ((hra.ext hx4).frL hf5).frL hf6, ((hrb.ext hx4).frL hf5).frL hf6, hq6, ⟨Nat.le_trans (Nat.le_trans hx4.size hf5.size) hf6.size, hs3⟩, (hx3.trans hx4).trans' (hf5.trans hf6) fun x hx e => by omega⟩, (hp6.reads.trans hp5.reads).trans rfl⟩
  · by_cases h0 : 0 < a.length
    · have m3 := Int.emod_nonneg at' (show ((a.length : Nat) : Int) ≠ 0 by omega)
      have m4 := Int.emod_lt_of_pos at' (show (0 : Int) < ((a.length : Nat) : Int) by omega)
      obtain ⟨k, hk'⟩ : ∃ k : Nat, at' % ((a.length : Nat) : Int) = (k : Int) := ⟨(at' % ((a.length : Nat) : Int)).toNat, by omega⟩
      have hkl : k < a.length := by omega
      obtain ⟨bk, oo, e, hbl, hcell⟩ := hra.at hm (by omega) hkl
      subst e
      have e0 := hcell 0 (.int .i64 a[k].1) rfl
      generalize a[k] = e at *
      repeat (first | refine sp ?_ | (refine is_load ?_; refine ld ?_) | (refine is_store ?_; refine sr ?_) | (refine is_alloc ?_; refine al ?_) | (refine is_box ?_; refine bx ?_) | (refine isl_load ?_; refine ldl ?_) | (refine isl_store ?_; refine srl ?_) | (refine isl_alloc ?_; refine all' ?_) | (refine isl_box ?_; refine bxl ?_))
      refine go_call rfl rfl (c_Mod at' (a.length : Int) _ hat (by omega)) ?_
      rintro _ w2' ⟨rfl, rfl⟩
      refine go_as 58 (u' := .int .i64 (k : Int)) rfl (by rw [hk']) ?_
      repeat (first | refine sp ?_ | (refine is_load ?_; refine ld ?_) | (refine is_store ?_; refine sr ?_) | (refine is_alloc ?_; refine al ?_) | (refine is_box ?_; refine bx ?_) | (refine isl_load ?_; refine ldl ?_) | (refine isl_store ?_; refine srl ?_) | (refine isl_alloc ?_; refine all' ?_) | (refine isl_box ?_; refine bxl ?_))
      refine go_call rfl rfl (c_Delete _ _ _ a e.1 hra (Nat.le_refl _) (by omega)) ?_
      rintro v3 w3 ⟨ho3, hx23⟩
      have hx3 := hx12.trans hx23
      replace hra := (hra.ext hx23).mono hx23.size
      have hrb := ho3.rd.up
      have hob := (hoa.filter fun x => decide (x.1 < e.1 ∨ e.1 < x.1)).mono (show 80 ≤ 81 by omega)
      generalize (a.filter fun x => decide (x.1 < e.1 ∨ e.1 < x.1)) = b3 at *
      obtain ⟨s3, c3, rfl, _, _⟩ := id hrb
      have hlb := hob.len
      have t1 := wrap_u64b (IntKind.u64.wrap (tilt * 3) + 1)
      repeat (first | refine sp ?_ | (refine is_load ?_; refine ld ?_) | (refine is_store ?_; refine sr ?_) | (refine is_alloc ?_; refine al ?_) | (refine is_box ?_; refine bx ?_) | (refine isl_load ?_; refine ldl ?_) | (refine isl_store ?_; refine srl ?_) | (refine isl_alloc ?_; refine all' ?_) | (refine isl_box ?_; refine bxl ?_))
      refine go_as 69 (u' := .int .i64 ((a.length + b3.length + 1 : Nat) : Int)) rfl (by congr 1) ?_
      refine go_call rfl rfl (p_New w3 (a.length + b3.length + 1) (by omega) (by omega)) ?_
      rintro _ w4 ⟨p, q, rfl, ha4, hq4, hx4⟩
      have hs3 := hx3.size
      repeat (first | refine sp ?_ | (refine is_load ?_; refine ld ?_) | (refine is_store ?_; refine sr ?_) | (refine is_alloc ?_; refine al ?_) | (refine is_box ?_; refine bx ?_) | (refine isl_load ?_; refine ldl ?_) | (refine isl_store ?_; refine srl ?_) | (refine isl_alloc ?_; refine all' ?_) | (refine isl_box ?_; refine bxl ?_))
      refine go_call rfl rfl (c_Plant (a.length + 1) a _ tilt w4 w3.heap.size p q _ (by omega) (by omega) ht ha4 rfl (by show 0 + a.length ≤ a.length + b3.length + 1; omega) hx4.size hq4 (hra.ext hx4)) ?_
      rintro _ w5 ⟨B5, t5, q5, rfl, ha5, hp5, hq5, hf5⟩
      have hc5 := hp5.cap
      have hF5 := hp5.fresh
      have hc5 : B5.cap = a.length + b3.length + 1 := hc5
      have hF5 : B5.fresh = 0 + a.length := hF5
      repeat (first | refine sp ?_ | (refine is_load ?_; refine ld ?_) | (refine is_store ?_; refine sr ?_) | (refine is_alloc ?_; refine al ?_) | (refine is_box ?_; refine bx ?_) | (refine isl_load ?_; refine ldl ?_) | (refine isl_store ?_; refine srl ?_) | (refine isl_alloc ?_; refine all' ?_) | (refine isl_box ?_; refine bxl ?_))
      refine go_call rfl rfl (c_Plant (b3.length + 1) b3 _ _ w5 w3.heap.size p q5 _ (by omega) (by omega) t1 ha5 hp5.rel (by omega) (Nat.le_trans hx4.size hf5.size) hq5 ((hrb.ext hx4).frL hf5)) ?_
      rintro _ w6 ⟨B6, t6, q6, rfl, ha6, hp6, hq6, hf6⟩
      repeat (first | refine sp ?_ | (refine is_load ?_; refine ld ?_) | (refine is_store ?_; refine sr ?_) | (refine is_alloc ?_; refine al ?_) | (refine is_box ?_; refine bx ?_) | (refine isl_load ?_; refine ldl ?_) | (refine isl_store ?_; refine srl ?_) | (refine isl_alloc ?_; refine all' ?_) | (refine isl_box ?_; refine bxl ?_))
      exact go_ret6 rfl rfl rfl rfl rfl rfl rfl ⟨_, rfl, w3.heap.size, p, q6, B6, t5, t6, a, b3, _, _, rfl, ⟨ha6, hp6.keep ha5.wf hp5.inA, hp6.inA, hp5.ent, hp6.ent, hoa, hob, ((hra.ext hx4).frL hf5).frL hf6, ((hrb.ext hx4).frL hf5).frL hf6, hq6, ⟨Nat.le_trans (Nat.le_trans hx4.size hf5.size) hf6.size, hs3⟩, (hx3.trans hx4).trans' (hf5.trans hf6) fun x hx e => by omega⟩, (hp6.reads.trans hp5.reads).trans rfl⟩
    · repeat (first | refine sp ?_ | (refine is_load ?_; refine ld ?_) | (refine is_store ?_; refine sr ?_) | (refine is_alloc ?_; refine al ?_) | (refine is_box ?_; refine bx ?_) | (refine isl_load ?_; refine ldl ?_) | (refine isl_store ?_; refine srl ?_) | (refine isl_alloc ?_; refine all' ?_) | (refine isl_box ?_; refine bxl ?_))
      have hx3 := hx12
      have hrb := hra
      have hob := hoa.mono (show 80 ≤ 81 by omega)
      have hlb := hob.len
      have t1 := wrap_u64b (IntKind.u64.wrap (tilt * 3) + 1)
      repeat (first | refine sp ?_ | (refine is_load ?_; refine ld ?_) | (refine is_store ?_; refine sr ?_) | (refine is_alloc ?_; refine al ?_) | (refine is_box ?_; refine bx ?_) | (refine isl_load ?_; refine ldl ?_) | (refine isl_store ?_; refine srl ?_) | (refine isl_alloc ?_; refine all' ?_) | (refine isl_box ?_; refine bxl ?_))
      refine go_as 69 (u' := .int .i64 ((a.length + a.length + 1 : Nat) : Int)) rfl (by congr 1) ?_
      refine go_call rfl rfl (p_New w2 (a.length + a.length + 1) (by omega) (by omega)) ?_
      rintro _ w4 ⟨p, q, rfl, ha4, hq4, hx4⟩
      have hs3 := hx3.size
      repeat (first | refine sp ?_ | (refine is_load ?_; refine ld ?_) | (refine is_store ?_; refine sr ?_) | (refine is_alloc ?_; refine al ?_) | (refine is_box ?_; refine bx ?_) | (refine isl_load ?_; refine ldl ?_) | (refine isl_store ?_; refine srl ?_) | (refine isl_alloc ?_; refine all' ?_) | (refine isl_box ?_; refine bxl ?_))
      refine go_call rfl rfl (c_Plant (a.length + 1) a _ tilt w4 w2.heap.size p q _ (by omega) (by omega) ht ha4 rfl (by show 0 + a.length ≤ a.length + a.length + 1; omega) hx4.size hq4 (hra.ext hx4)) ?_
      rintro _ w5 ⟨B5, t5, q5, rfl, ha5, hp5, hq5, hf5⟩
      have hc5 := hp5.cap
      have hF5 := hp5.fresh
      have hc5 : B5.cap = a.length + a.length + 1 := hc5
      have hF5 : B5.fresh = 0 + a.length := hF5
      repeat (first | refine sp ?_ | (refine is_load ?_; refine ld ?_) | (refine is_store ?_; refine sr ?_) | (refine is_alloc ?_; refine al ?_) | (refine is_box ?_; refine bx ?_) | (refine isl_load ?_; refine ldl ?_) | (refine isl_store ?_; refine srl ?_) | (refine isl_alloc ?_; refine all' ?_) | (refine isl_box ?_; refine bxl ?_))
      refine go_call rfl rfl (c_Plant (a.length + 1) a _ _ w5 w2.heap.size p q5 _ (by omega) (by omega) t1 ha5 hp5.rel (by omega) (Nat.le_trans hx4.size hf5.size) hq5 ((hrb.ext hx4).frL hf5)) ?_
      rintro _ w6 ⟨B6, t6, q6, rfl, ha6, hp6, hq6, hf6⟩
      repeat (first | refine sp ?_ | (refine is_load ?_; refine ld ?_) | (refine is_store ?_; refine sr ?_) | (refine is_alloc ?_; refine al ?_) | (refine is_box ?_; refine bx ?_) | (refine isl_load ?_; refine ldl ?_) | (refine isl_store ?_; refine srl ?_) | (refine isl_alloc ?_; refine all' ?_) | (refine isl_box ?_; refine bxl ?_))
      exact go_ret6 rfl rfl rfl rfl rfl rfl rfl ⟨_, rfl, w2.heap.size, p, q6, B6, t5, t6, a, a, _, _, rfl, ⟨ha6, hp6.keep ha5.wf hp5.inA, hp6.inA, hp5.ent, hp6.ent, hoa, hob, ((hra.ext hx4).frL hf5).frL hf6, ((hrb.ext hx4).frL hf5).frL hf6, hq6, ⟨Nat.le_trans (Nat.le_trans hx4.size hf5.size) hf6.size, hs3⟩, (hx3.trans hx4).trans' (hf5.trans hf6) fun x hx e => by omega⟩, (hp6.reads.trans hp5.reads).trans rfl⟩

end Go.Proofs.Yteghhalnpdikoaa
