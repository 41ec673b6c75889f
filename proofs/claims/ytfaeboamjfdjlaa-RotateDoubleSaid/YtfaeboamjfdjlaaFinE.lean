/-
  Opening arguments that are entries, summaries, and slices of entries.
-/
import Derived.Test.YtfaeboamjfdjlaaFinR
import Derived.Test.YtfaeboamjfdjlaaSm
import Derived.Test.YtfaeboamjfdjlaaTq
import Derived.Test.YtfaeboamjfdjlaaPl
set_option linter.unusedVariables false
namespace Go.Proofs.Ytfaeboamjfdjlaa
open Go.Vc Go.ChangeShapes Go.WideShapes Go.ChangeAt Go.RowKit

theorem open_rec {α : Type} {H : Type} {enc : TypeId × Value → H} {P : Program} {W : World} {base : Nat} {t : TypeId} {fs : Array Field} {v : Value} {d : DataW H} {ps : List MemPlace} {encv : α → List Value} {ok : α → Prop}
    (ht : P.underlying t = some (.struct fs)) (hel : ElT P t encv ok)
    (hv : Value.okWide P W .any base t v) (h : DataW.Trod enc P W 0 (fun _ => true) true t v d ps) : ∃ a, v = .agg ⟨encv a⟩ ∧ ok a := by
  obtain ⟨cs, rfl, hc⟩ := okWide_struct ht hv
  obtain ⟨fuel, hf⟩ := h
  obtain ⟨a, e, hok⟩ := hel _ _ _ _ _ _ hf
  refine ⟨a, ?_, hok⟩
  have e2 : cs.toList = encv a := e
  rw [← e2]

theorem el_Entry : ElT Try.prog 88 entC (fun e => InV e.1 ∧ InV e.2) :=
  elT_ints (ks := [.i64, .i64]) Try.underlying88 (by kernel_rfl) (by kernel_rfl) fun zs hz => by
    match zs, hz with
    | [a, b], h => exact ⟨(a, b), rfl, int_wf64 h.1, int_wf64 h.2.1⟩

end Go.Proofs.Ytfaeboamjfdjlaa
