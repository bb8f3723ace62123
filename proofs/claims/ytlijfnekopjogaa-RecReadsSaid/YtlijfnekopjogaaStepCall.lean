/- A call of a Go function, as one step of a region that draws its order. -/
import Derived.Test.YtlijfnekopjogaaSteps
import Derived.Deep.RegionLaw
namespace Go.Proofs.Ytlijfnekopjogaa.Mem
open Go Go.RowKit
set_option linter.unusedSimpArgs false
section
variable {P : Program} {w : World}
theorem step_call {ops : Array Oper} {o : Oper} {a : Act} {K : Act → World → Prop} {Q : Exit → Act → World → Prop} {E : Prop} (hgd : o.guard = none) (f : FuncId) (as : Array Operand) (ts : Array TypeId)
    (ho : o.op = .call { callee := .value (.func f), args := as, argTypes := ts }) (vs : Array Value) (hv : as.map a.eval = vs)
    (hcf : ∀ a w, (callFunc f a).run P w = .ok (.enter f a) w)
    (h : Calls P f vs w fun e w' => ∃ v, e = .returned v ∧ K (a.put o.dst v) w') :
    if Region.wanted o (yielded ops a.tmps) = true then Oper.wp P o a w K Q else E := by
  have hw : Region.wanted o (yielded ops a.tmps) = true := by simp [Region.wanted, hgd]
  rw [if_pos hw]
  unfold Oper.wp execOp
  simp only [ho, resolve, invoke, Sem.run_bind, Sem.run_pure, Result.andThen_ok]
  rw [hv]
  have he : a.eval (.func f) = .func (.func f) #[] #[] := rfl
  rw [he]
  simp only [Deferred.ofValue, Sem.run_pure, Result.andThen_ok, Array.append_empty, Array.empty_append, hcf]
  rw [Oper.upon_enter]
  refine h.mono ?_
  rintro e w' ⟨v, rfl, hk⟩
  exact hk
end
end Go.Proofs.Ytlijfnekopjogaa.Mem
