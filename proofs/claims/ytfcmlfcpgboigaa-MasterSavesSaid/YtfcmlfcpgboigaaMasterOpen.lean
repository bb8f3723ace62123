/- An argument that is a record of layer 6. -/
import Derived.Test.YtfcmlfcpgboigaaOpen
import Derived.Test.YtfcmlfcpgboigaaMaster
import Derived.Test.YtfcmlfcpgboigaaLift
namespace Go.Proofs.Ytfcmlfcpgboigaa
open Go.ChangeShapes Go.WideShapes Go.ChangeAt Go.RowKit Mem Lift
set_option linter.unusedVariables false
set_option maxRecDepth 100000

section
variable {H : Type} {enc : TypeId × Value → H} {W : World}
def MOk (m : Ms.M) : Prop := ∀ x ∈ m.vals, -9223372036854775808 ≤ x ∧ x ≤ 9223372036854775807
theorem master_cells {cs : List Value} (h : Rd enc Try.prog W 48 cs) : ∃ m : Ms.M, cs = (mCells m).toList ∧ MOk m := by
  obtain ⟨hl, hf⟩ := h.struct Try.underlying48
  rw [show Try.prog.cellsOf 48 = 5 by kernel_rfl] at hl
  match cs, hl with
  | [a0, a1, a2, a3, a4], _ =>
    have h0 : Rd enc Try.prog W 3 [a0] := by
      have y : Rd enc Try.prog W 3 ((([a0, a1, a2, a3, a4] : List Value).drop 0).take (Try.prog.cellsOf 3)) := hf 0 _ rfl
      rw [show Try.prog.cellsOf 3 = 1 by kernel_rfl] at y
      exact y
    obtain ⟨x0, e0, w0⟩ := h0.int Try.underlying3
    have h1 : Rd enc Try.prog W 3 [a1] := by
      have y : Rd enc Try.prog W 3 ((([a0, a1, a2, a3, a4] : List Value).drop 1).take (Try.prog.cellsOf 3)) := hf 1 _ rfl
      rw [show Try.prog.cellsOf 3 = 1 by kernel_rfl] at y
      exact y
    obtain ⟨x1, e1, w1⟩ := h1.int Try.underlying3
    have h2 : Rd enc Try.prog W 3 [a2] := by
      have y : Rd enc Try.prog W 3 ((([a0, a1, a2, a3, a4] : List Value).drop 2).take (Try.prog.cellsOf 3)) := hf 2 _ rfl
      rw [show Try.prog.cellsOf 3 = 1 by kernel_rfl] at y
      exact y
    obtain ⟨x2, e2, w2⟩ := h2.int Try.underlying3
    have h3 : Rd enc Try.prog W 3 [a3] := by
      have y : Rd enc Try.prog W 3 ((([a0, a1, a2, a3, a4] : List Value).drop 3).take (Try.prog.cellsOf 3)) := hf 3 _ rfl
      rw [show Try.prog.cellsOf 3 = 1 by kernel_rfl] at y
      exact y
    obtain ⟨x3, e3, w3⟩ := h3.int Try.underlying3
    have h4 : Rd enc Try.prog W 3 [a4] := by
      have y : Rd enc Try.prog W 3 ((([a0, a1, a2, a3, a4] : List Value).drop 4).take (Try.prog.cellsOf 3)) := hf 4 _ rfl
      rw [show Try.prog.cellsOf 3 = 1 by kernel_rfl] at y
      exact y
    obtain ⟨x4, e4, w4⟩ := h4.int Try.underlying3
    simp only [List.cons.injEq, and_true] at e0 e1 e2 e3 e4
    subst e0 e1 e2 e3 e4
    refine ⟨⟨x0, x1, x2, x3, x4⟩, rfl, fun x hx => ?_⟩
    simp only [Ms.M.vals, List.mem_cons, List.not_mem_nil, or_false] at hx
    rcases hx with rfl | rfl | rfl | rfl | rfl
    · exact bounds_i64 w0
    · exact bounds_i64 w1
    · exact bounds_i64 w2
    · exact bounds_i64 w3
    · exact bounds_i64 w4
theorem open_master {v : Value} {d : DataW H} {p : List MemPlace} {base : Nat} (hv : Value.okWide Try.prog W .any base 48 v) (h : DataW.Trod enc Try.prog W 0 (fun _ => true) true 48 v d p) :
    ∃ m : Ms.M, v = mVal m ∧ MOk m := by
  obtain ⟨cs, rfl, _⟩ := okWide_struct Try.underlying48 hv
  obtain ⟨m, e, r⟩ := master_cells (rd_of h)
  refine ⟨m, ?_, r⟩
  simp only [Value.cells] at e
  unfold mVal
  congr 1
  exact Array.toList_inj.1 e
end
end Go.Proofs.Ytfcmlfcpgboigaa
