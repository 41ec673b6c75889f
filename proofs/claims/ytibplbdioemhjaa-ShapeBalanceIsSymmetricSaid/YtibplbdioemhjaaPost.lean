/-
  What a law's row asks of the world behind the call, out of 'the old blocks are as they were'.
-/
import Derived.Test.YtibplbdioemhjaaFacts
import Derived.ProofKit
import Derived.OpenShut
set_option linter.unusedVariables false
namespace Go.Proofs.Ytibplbdioemhjaa
open Go.Vc

theorem post_ext {H : Type} {enc : TypeId × Value → H} {P : Program} {f : Func} {s : ChangeSpec} {apart fresh handsOn : Bool} {W W' : World} {args : Array Value} {v : Value} {ds gs : List (DataW H)} {before pa pv : List MemPlace}
    (hW : DataW.Whole enc P f.params.toList s.vars apart W args.toList ds gs before)
    (hres : ∀ (b : Nat) (sp : Nat → Bool) (hd : Bool), DataW.TrodAll enc P W' b sp hd f.resultTypes.toList (v.resultList f.resultTypes.size) (s.fn H (ds ++ gs)).results [])
    (hargs : ∀ sp : Nat → Bool, (∀ p ∈ before, sp p.block = true) → DataW.TrodAll enc P W' 0 sp true f.params.toList args.toList (s.fn H (ds ++ gs)).args pa)
    (hvars : ∀ sp : Nat → Bool, (∀ p ∈ before, sp p.block = true) → DataW.TrodVars enc P W' sp s.vars (s.fn H (ds ++ gs)).vars pv)
    (hps : before = pa ++ pv) (hx : Ext W W') :
    s.post enc P f apart fresh handsOn false W args v W' := by
  have hold : ∀ p ∈ before, (fun b => decide (b < W.heap.size)) p.block = true := fun p hp => by simpa using hW.lt p hp
  refine ⟨ds, gs, before, [], pa, pv, hW, hres _ _ _, hargs _ hold, hvars _ hold, World.keptBut_mono (fun p hp => ⟨hp, ?_⟩) (hx.below.frame (· ∈ before)), fun h => by cases h⟩
  rw [hps, List.mem_append] at hp
  exact Or.inr hp

/-- What the walks hand over. -/
def Done (w : World) (e : Ending) (w' : World) : Prop := e = .returned (.bool true) ∧ Ext w w'

theorem done_of {P : Program} {f : FuncId} {args : Array Value} {w : World} (h : Calls P f args w (Ret fun v w' => v = .bool true ∧ Ext w w')) : Calls P f args w (Done w) :=
  h.mono (by rintro e w' ⟨v, rfl, rfl, hx⟩; exact ⟨rfl, hx⟩)

theorem done_of_same {P : Program} {f : FuncId} {args : Array Value} {w : World} (h : Calls P f args w (Ret fun v w' => v = .bool true ∧ w' = w)) : Calls P f args w (Done w) :=
  h.mono (by rintro e w' ⟨v, rfl, rfl, rfl⟩; exact ⟨rfl, Fr.refl _ _⟩)

end Go.Proofs.Ytibplbdioemhjaa
