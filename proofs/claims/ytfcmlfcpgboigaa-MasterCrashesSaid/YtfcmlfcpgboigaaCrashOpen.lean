/- Opening api.Crash. -/
import Derived.Test.YtfcmlfcpgboigaaRows
import Derived.Test.YtfcmlfcpgboigaaOpen
namespace Go.Proofs.Ytfcmlfcpgboigaa
open Go.ChangeShapes Go.WideShapes Go.ChangeAt Go.RowKit Mem Lift
set_option maxRecDepth 100000

theorem list3 {α : Type} {cs : List α} (h : cs.length = 3) : ∃ a b c, cs = [a, b, c] := by
  match cs, h with
  | [a, b, c], _ => exact ⟨a, b, c, rfl⟩
section
variable {H : Type} {enc : TypeId × Value → H} {W : World}
theorem crash_cells {cs : List Value} (h : Rd enc Try.prog W 69 cs) : ∃ AK nk ck torn cut ks, cs = [.slice AK nk ck, .bool torn, .int .i64 cut] ∧ IS W AK nk ks ∧ nk ≤ ck ∧ ck ≤ maxLen ∧ -9223372036854775808 ≤ cut ∧ cut ≤ 9223372036854775807 := by
  obtain ⟨hl, hf⟩ := h.struct Try.underlying69
  rw [show Try.prog.cellsOf 69 = 3 by kernel_rfl] at hl
  obtain ⟨a, b, c, rfl⟩ := list3 hl
  · skip
    have h0 : Rd enc Try.prog W 67 [a] := by
      have y : Rd enc Try.prog W 67 ((([a, b, c] : List Value).drop 0).take (Try.prog.cellsOf 67)) := hf 0 _ rfl
      rw [show Try.prog.cellsOf 67 = 1 by kernel_rfl] at y
      exact y
    have h1 : Rd enc Try.prog W 4 [b] := by
      have y : Rd enc Try.prog W 4 ((([a, b, c] : List Value).drop 1).take (Try.prog.cellsOf 4)) := hf 1 _ rfl
      rw [show Try.prog.cellsOf 4 = 1 by kernel_rfl] at y
      exact y
    have h2 : Rd enc Try.prog W 3 [c] := by
      have y : Rd enc Try.prog W 3 ((([a, b, c] : List Value).drop 2).take (Try.prog.cellsOf 3)) := hf 2 _ rfl
      rw [show Try.prog.cellsOf 3 = 1 by kernel_rfl] at y
      exact y
    obtain ⟨AK, nk, ck, e0, hs⟩ := h0.slice Try.underlying67 (by rw [show Try.prog.cellsOf 3 = 1 by kernel_rfl]; omega)
    obtain ⟨torn, e1⟩ := h1.bool Try.underlying4
    obtain ⟨cut, e2, hw⟩ := h2.int Try.underlying3
    simp only [List.cons.injEq, and_true] at e0 e1 e2
    subst e0 e1 e2
    obtain ⟨ks, hk, _⟩ := hs.ints Try.underlying3 (by kernel_rfl)
    have hb := bounds_i64 hw
    exact ⟨AK, nk, ck, torn, cut, ks, rfl, hk, hs.1, hs.2.1, hb.1, hb.2⟩
theorem open_crash {v : Value} {d : DataW H} {p : List MemPlace} {base : Nat} (hv : Value.okWide Try.prog W .any base 69 v) (h : DataW.Trod enc Try.prog W 0 (fun _ => true) true 69 v d p) :
    ∃ AK nk ck torn cut ks, v = .agg #[.slice AK nk ck, .bool torn, .int .i64 cut] ∧ IS W AK nk ks ∧ nk ≤ ck ∧ ck ≤ maxLen ∧ -9223372036854775808 ≤ cut ∧ cut ≤ 9223372036854775807 := by
  obtain ⟨cs, rfl, _⟩ := okWide_struct Try.underlying69 hv
  obtain ⟨AK, nk, ck, torn, cut, ks, e, r⟩ := crash_cells (rd_of h)
  refine ⟨AK, nk, ck, torn, cut, ks, ?_, r⟩
  simp only [Value.cells] at e
  rw [← e]
end
end Go.Proofs.Ytfcmlfcpgboigaa
