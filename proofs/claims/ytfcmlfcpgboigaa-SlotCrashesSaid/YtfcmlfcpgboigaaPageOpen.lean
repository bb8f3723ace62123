/- An argument that is a page. -/
import Derived.Test.YtfcmlfcpgboigaaPage
import Derived.Test.YtfcmlfcpgboigaaLift
namespace Go.Proofs.Ytfcmlfcpgboigaa
open Go.ChangeShapes Go.WideShapes Go.ChangeAt Go.RowKit Mem Lift
set_option linter.unusedVariables false
set_option maxRecDepth 100000

section
variable {H : Type} {enc : TypeId × Value → H} {W : World}
theorem cell_cells {cs : List Value} (h : Rd enc Try.prog W 40 cs) : ∃ c : Pg.C, cs = cellK.cells c ∧ cellK.ok W c := by
  obtain ⟨hl, hf⟩ := h.struct Try.underlying40
  rw [show Try.prog.cellsOf 40 = 3 by kernel_rfl] at hl
  match cs, hl with
  | [a0, a1, a2], _ =>
    have h0 : Rd enc Try.prog W 9 [a0] := by
      have y : Rd enc Try.prog W 9 ((([a0, a1, a2] : List Value).drop 0).take (Try.prog.cellsOf 9)) := hf 0 _ rfl
      rw [show Try.prog.cellsOf 9 = 1 by kernel_rfl] at y
      exact y
    obtain ⟨x0, e0, w0⟩ := h0.string Try.underlying9
    have h1 : Rd enc Try.prog W 26 [a1, a2] := by
      have y : Rd enc Try.prog W 26 ((([a0, a1, a2] : List Value).drop 1).take (Try.prog.cellsOf 26)) := hf 1 _ rfl
      rw [show Try.prog.cellsOf 26 = 2 by kernel_rfl] at y
      exact y
    obtain ⟨_, hg⟩ := h1.struct Try.underlying26
    have h2 : Rd enc Try.prog W 4 [a1] := by
      have y : Rd enc Try.prog W 4 ((([a1, a2] : List Value).drop 0).take (Try.prog.cellsOf 4)) := hg 0 _ rfl
      rw [show Try.prog.cellsOf 4 = 1 by kernel_rfl] at y
      exact y
    obtain ⟨x1, e1⟩ := h2.bool Try.underlying4
    have h3 : Rd enc Try.prog W 9 [a2] := by
      have y : Rd enc Try.prog W 9 ((([a1, a2] : List Value).drop 1).take (Try.prog.cellsOf 9)) := hg 1 _ rfl
      rw [show Try.prog.cellsOf 9 = 1 by kernel_rfl] at y
      exact y
    obtain ⟨x2, e2, w2⟩ := h3.string Try.underlying9
    simp only [List.cons.injEq, and_true] at e0 e1 e2
    subst e0 e1 e2
    unfold maxLen at w0 w2
    exact ⟨⟨x0, x1, x2⟩, rfl, by show x0.size ≤ _; omega, by show x2.size ≤ _; omega⟩
theorem page_cells {cs : List Value} (h : Rd enc Try.prog W 24 cs) : ∃ lsn A n c l, cs = [.int .i64 lsn, .slice A n c] ∧ (-9223372036854775808 ≤ lsn ∧ lsn ≤ 9223372036854775807) ∧ ST cellK W A n l ∧ n ≤ c ∧ c ≤ maxLen := by
  obtain ⟨hl, hf⟩ := h.struct Try.underlying24
  rw [show Try.prog.cellsOf 24 = 2 by kernel_rfl] at hl
  match cs, hl with
  | [a0, a1], _ =>
    have h0 : Rd enc Try.prog W 3 [a0] := by
      have y : Rd enc Try.prog W 3 ((([a0, a1] : List Value).drop 0).take (Try.prog.cellsOf 3)) := hf 0 _ rfl
      rw [show Try.prog.cellsOf 3 = 1 by kernel_rfl] at y
      exact y
    obtain ⟨x0, e0, w0⟩ := h0.int Try.underlying3
    have h1 : Rd enc Try.prog W 22 [a1] := by
      have y : Rd enc Try.prog W 22 ((([a0, a1] : List Value).drop 1).take (Try.prog.cellsOf 22)) := hf 1 _ rfl
      rw [show Try.prog.cellsOf 22 = 1 by kernel_rfl] at y
      exact y
    obtain ⟨A, n, c, e1, hs⟩ := h1.slice Try.underlying22 (by rw [show Try.prog.cellsOf 40 = 3 by kernel_rfl]; omega)
    obtain ⟨l, hst⟩ := structs_of (K := cellK) hs (by kernel_rfl) (fun cs h => cell_cells h)
    simp only [List.cons.injEq, and_true] at e0 e1
    subst e0 e1
    exact ⟨x0, A, n, c, l, rfl, bounds_i64 w0, hst, hs.1, hs.2.1⟩
theorem open_page {v : Value} {d : DataW H} {p : List MemPlace} {base : Nat} (hv : Value.okWide Try.prog W .any base 24 v) (h : DataW.Trod enc Try.prog W 0 (fun _ => true) true 24 v d p) :
    ∃ lsn A n c l, v = pVal lsn A n c ∧ (-9223372036854775808 ≤ lsn ∧ lsn ≤ 9223372036854775807) ∧ ST cellK W A n l ∧ n ≤ c ∧ c ≤ maxLen := by
  obtain ⟨cs, rfl, _⟩ := okWide_struct Try.underlying24 hv
  obtain ⟨lsn, A, n, c, l, e, r⟩ := page_cells (rd_of h)
  refine ⟨lsn, A, n, c, l, ?_, r⟩
  simp only [Value.cells] at e
  unfold pVal
  congr 1
  exact Array.toList_inj.1 e
theorem value_cells {cs : List Value} (h : Rd enc Try.prog W 26 cs) : ∃ (has : Bool) (data : ByteArray), cs = [.bool has, .string data] ∧ data.size ≤ maxLen := by
  obtain ⟨hl, hg⟩ := h.struct Try.underlying26
  rw [show Try.prog.cellsOf 26 = 2 by kernel_rfl] at hl
  match cs, hl with
  | [a1, a2], _ =>
    have h2 : Rd enc Try.prog W 4 [a1] := by
      have y : Rd enc Try.prog W 4 ((([a1, a2] : List Value).drop 0).take (Try.prog.cellsOf 4)) := hg 0 _ rfl
      rw [show Try.prog.cellsOf 4 = 1 by kernel_rfl] at y
      exact y
    obtain ⟨x1, e1⟩ := h2.bool Try.underlying4
    have h3 : Rd enc Try.prog W 9 [a2] := by
      have y : Rd enc Try.prog W 9 ((([a1, a2] : List Value).drop 1).take (Try.prog.cellsOf 9)) := hg 1 _ rfl
      rw [show Try.prog.cellsOf 9 = 1 by kernel_rfl] at y
      exact y
    obtain ⟨x2, e2, w2⟩ := h3.string Try.underlying9
    simp only [List.cons.injEq, and_true] at e1 e2
    subst e1 e2
    exact ⟨x1, x2, rfl, w2⟩
theorem open_value {v : Value} {d : DataW H} {p : List MemPlace} {base : Nat} (hv : Value.okWide Try.prog W .any base 26 v) (h : DataW.Trod enc Try.prog W 0 (fun _ => true) true 26 v d p) :
    ∃ (has : Bool) (data : ByteArray), v = vVal has data ∧ data.size ≤ maxLen := by
  obtain ⟨cs, rfl, _⟩ := okWide_struct Try.underlying26 hv
  obtain ⟨has, data, e, r⟩ := value_cells (rd_of h)
  refine ⟨has, data, ?_, r⟩
  simp only [Value.cells] at e
  unfold vVal
  congr 1
  exact Array.toList_inj.1 e
end
end Go.Proofs.Ytfcmlfcpgboigaa
