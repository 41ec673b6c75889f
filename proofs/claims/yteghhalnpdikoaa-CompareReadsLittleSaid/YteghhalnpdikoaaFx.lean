/-
  Function values: how one is made, and how it is called.
-/
import Derived.Test.YteghhalnpdikoaaVc
import Derived.Test.YteghhalnpdikoaaFacts
set_option linter.unusedVariables false
namespace Go.Vc
section
variable {P : Program} {n : Nat} {Q : Exit → Act → World → Prop} {k : List It} {st : St} {w : World}
variable {all : Array Oper} {rest : List Oper} {d : Nat} {to : TypeId} {p : String} {af : Array Edge}

theorem pr_makeFunc {fn : Fn} {cs : List Operand} {vs : List Value} (hx : evL st cs = some vs) : PureRun P st (.makeFunc fn #[] cs.toArray) (.func fn #[] vs.toArray) := by
  unfold PureRun
  intro n a w ha d to p af
  have := ha.evL hx
  simp [execOp, Instr.makeFunc, this]

theorem go_callv {f : FuncId} {x : Operand} {xs : List Operand} {vs cs : List Value} {ts : Array TypeId} {Φ : Value → World → Prop} [hf : Enters P f] (hd : Nat.blt d n = true) (h0 : evS st x = some (.func (.func f) #[] cs.toArray)) (hx : evL st xs = some vs)
    (hc : Calls P f (vs ++ cs).toArray w (Ret Φ)) (h : ∀ v w', Φ v w' → Go P n Q (.ops all rest :: k) ((d, v) :: st) w') :
    Go P n Q (.ops all (⟨some d, .call { callee := .value x, args := xs.toArray, argTypes := ts }, to, p, af, none⟩ :: rest) :: k) st w := by
  unfold Go at h ⊢
  intro a ha
  refine wpList_plain rfl fun K' hK => ?_
  unfold Oper.wp
  have hr : (execOp a.eval ⟨some d, .call { callee := .value x, args := xs.toArray, argTypes := ts }, to, p, af, none⟩).run P w = .ok (.enter f (vs ++ cs).toArray) w := by
    simp [execOp, resolve, ha.ev h0, Deferred.ofValue, invoke, hf.enters, ha.evL hx]
  rw [hr, Oper.upon_enter]
  refine hc.mono ?_
  rintro e w' ⟨v, rfl, hv⟩
  exact hK _ _ (h v w' hv _ (ha.put hd v))
end
end Go.Vc
