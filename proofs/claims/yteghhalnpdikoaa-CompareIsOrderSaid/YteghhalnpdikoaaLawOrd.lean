/- The law CompareIsOrder holds for every input: it returns true and leaves its arguments as they were. No condition. -/
import Derived.Test.YteghhalnpdikoaaRows
import Derived.Test.YteghhalnpdikoaaFin
import Derived.Test.YteghhalnpdikoaaFinF
import Derived.Test.YteghhalnpdikoaaDe
set_option linter.unusedVariables false
namespace Go.Proofs.Yteghhalnpdikoaa.compareIsOrder
open Go.Vc Go.ChangeShapes Go.WideShapes Go.ChangeAt Go.RowKit
theorem own : ownKnob Try.prog.godebug = none := by kernel_rfl
theorem laidOut : laidOutB Try.prog = true := by kernel_rfl
set_option maxRecDepth 100000 in
theorem lifted (os : Os) (started : os.Started) (H : Type) (enc : TypeId × Value → H) :
    ReturnsInHanded {} Try.checked os 3 .any (Rows.compareIsOrderSpec.pre6 enc Try.prog Try.f3 Rows.compareIsOrderRow.domain false) (Rows.compareIsOrderSpec.post enc Try.prog Try.f3 false true false false) := by
  refine returnsInHanded_of_change (C := Try.checked) own started (by kernel_rfl) Try.func3
    (ChangeSpec.witness6 (enc := enc) (C := Try.checked) false ⟨#[], #[.slice none 0 0, .slice none 0 0, .slice none 0 0, .int .u64 0], []⟩ 8 (by kernel_rfl) (by kernel_rfl) (by kernel_rfl) (by kernel_rfl)) ?_
  intro W base args ds gs before hval0 hW hcnd _
  have hval : ∀ (j : Nat) t v, Try.f3.params[j]? = some t → args[j]? = some v → Value.okWide Try.prog W .any base t v := hval0
  have hW' := hW
  obtain ⟨p, q, hA0, hV, rfl, hfz, hnd⟩ := hW
  have hA : DataW.TrodAll enc Try.prog W 0 (fun _ => true) true Try.f3.params.toList args.toList ds p := hA0
  rw [Try.params3] at hA hval
  obtain ⟨v0, vs0, d0, ds0, p0, q0, hargs, rfl, rfl, h0, r0⟩ := trodAll_cons hA
  obtain ⟨v1, vs1, d1, ds1, p1, q1, rfl, rfl, rfl, h1, r1⟩ := trodAll_cons r0
  obtain ⟨v2, vs2, d2, ds2, p2, q2, rfl, rfl, rfl, h2, r2⟩ := trodAll_cons r1
  obtain ⟨v3, vs3, d3, ds3, p3, q3, rfl, rfl, rfl, h3, r3⟩ := trodAll_cons r2
  obtain ⟨rfl, rfl, rfl⟩ := trodAll_nil r3
  obtain rfl : args = #[v0, v1, v2, v3] := by cases args; simp_all
  obtain ⟨rfl, rfl⟩ := trodVars_none hV
  obtain ⟨l0, b0, n0, m0⟩ := open_recs (m := 2) Try.underlying22 (by kernel_rfl) (by decide) el_Entry (fun _ => rfl) (hval 0 22 v0 rfl rfl) h0
  obtain ⟨l1, b1, n1, m1⟩ := open_recs (m := 2) Try.underlying22 (by kernel_rfl) (by decide) el_Entry (fun _ => rfl) (hval 1 22 v1 rfl rfl) h1
  obtain ⟨l2, b2, n2, m2⟩ := open_recs (m := 2) Try.underlying22 (by kernel_rfl) (by decide) el_Entry (fun _ => rfl) (hval 2 22 v2 rfl rfl) h2
  obtain ⟨a3, rfl, rfl, rfl, w3⟩ := open_int Try.underlying23 (hval 3 23 v3 rfl rfl) h3
  clear hA0 hval0
  simp only [List.append_nil] at hW'
  refine (done_of (c_LawOrder17 v0 v1 v2 l0 l1 l2 a3 W b0 b1 b2 m0 m1 m2 n0 n1 n2 (int_wfu64 w3))).mono fun e W' ⟨he, hg⟩ => ?_
  subst he
  exact ⟨_, rfl, post_law hW' rfl laidOut (by kernel_rfl) rfl rfl Try.underlying4 hg⟩

theorem over : Rows.compareIsOrderRow.holds Try.pinned (OpenSpec.ofChange Rows.compareIsOrderSpec) :=
  OpenClaim.holds_of_wide 3 Try.f3 rfl rfl rfl rfl rfl rfl rfl ⟨rfl, rfl, rfl, rfl, rfl⟩ rfl rfl rfl rfl rfl (by kernel_rfl) Try.func3 (by kernel_rfl)
    (of_decide_eq_true (by kernel_rfl)) (by unfold Func.isWrapper; first | (rw [if_pos (by decide +kernel)]; kernel_rfl) | (rw [if_neg (by decide +kernel)]; exact ⟨rfl, rfl⟩))
    (fun os started H enc _ => lifted os started H enc)

theorem proved : Rows.CompareIsOrderSaid := over
end Go.Proofs.Yteghhalnpdikoaa.compareIsOrder
