/- An argument that is a log record. -/
import Derived.Test.YtlijfnekopjogaaRecSames
import Derived.Test.YtlijfnekopjogaaLift
import Derived.Test.YtlijfnekopjogaaOpen
import Derived.Test.YtlijfnekopjogaaRowsOf
namespace Go.Proofs.Ytlijfnekopjogaa
open Go Go.ChangeShapes Go.WideShapes Go.ChangeAt Go.RowKit Mem Lift Rc
set_option linter.unusedVariables false
set_option maxRecDepth 100000

section
variable {H : Type} {enc : TypeId × Value → H} {W : World}
theorem val_cells {cs : List Value} (h : Rd enc Try.prog W 23 cs) : ∃ (has : Bool) (data : ByteArray), cs = [.bool has, .string data] ∧ data.size ≤ maxLen := by
  obtain ⟨hl, hf⟩ := h.struct Try.underlying23
  rw [show Try.prog.cellsOf 23 = 2 by kernel_rfl] at hl
  match cs, hl with
  | [a0, a1], _ =>
    have h0 : Rd enc Try.prog W 4 [a0] := by
      have y : Rd enc Try.prog W 4 ((([a0, a1] : List Value).drop 0).take (Try.prog.cellsOf 4)) := hf 0 _ rfl
      rw [show Try.prog.cellsOf 4 = 1 by kernel_rfl] at y
      exact y
    obtain ⟨x0, e0⟩ := h0.bool Try.underlying4
    have h1 : Rd enc Try.prog W 9 [a1] := by
      have y : Rd enc Try.prog W 9 ((([a0, a1] : List Value).drop 1).take (Try.prog.cellsOf 9)) := hf 1 _ rfl
      rw [show Try.prog.cellsOf 9 = 1 by kernel_rfl] at y
      exact y
    obtain ⟨x1, e1, w1⟩ := h1.string Try.underlying9
    simp only [List.cons.injEq, and_true] at e0 e1
    subst e0 e1
    exact ⟨x0, x1, rfl, w1⟩
theorem lock_cells {cs : List Value} (h : Rd enc Try.prog W 50 cs) : ∃ x : L, cs = lockK.cells x ∧ lockK.ok W x := by
  obtain ⟨hl, hf⟩ := h.struct Try.underlying50
  rw [show Try.prog.cellsOf 50 = 2 by kernel_rfl] at hl
  match cs, hl with
  | [a0, a1], _ =>
    have h0 : Rd enc Try.prog W 9 [a0] := by
      have y : Rd enc Try.prog W 9 ((([a0, a1] : List Value).drop 0).take (Try.prog.cellsOf 9)) := hf 0 _ rfl
      rw [show Try.prog.cellsOf 9 = 1 by kernel_rfl] at y
      exact y
    obtain ⟨x0, e0, w0⟩ := h0.string Try.underlying9
    have h1 : Rd enc Try.prog W 4 [a1] := by
      have y : Rd enc Try.prog W 4 ((([a0, a1] : List Value).drop 1).take (Try.prog.cellsOf 4)) := hf 1 _ rfl
      rw [show Try.prog.cellsOf 4 = 1 by kernel_rfl] at y
      exact y
    obtain ⟨x1, e1⟩ := h1.bool Try.underlying4
    simp only [List.cons.injEq, and_true] at e0 e1
    subst e0 e1
    unfold maxLen at w0
    exact ⟨⟨x0, x1⟩, rfl, by show x0.size ≤ _; omega⟩
theorem dirty_cells {cs : List Value} (h : Rd enc Try.prog W 92 cs) : ∃ x : D, cs = dirtyK.cells x ∧ dirtyK.ok W x := by
  obtain ⟨hl, hf⟩ := h.struct Try.underlying92
  rw [show Try.prog.cellsOf 92 = 2 by kernel_rfl] at hl
  match cs, hl with
  | [a0, a1], _ =>
    have h0 : Rd enc Try.prog W 3 [a0] := by
      have y : Rd enc Try.prog W 3 ((([a0, a1] : List Value).drop 0).take (Try.prog.cellsOf 3)) := hf 0 _ rfl
      rw [show Try.prog.cellsOf 3 = 1 by kernel_rfl] at y
      exact y
    obtain ⟨x0, e0, w0⟩ := h0.int Try.underlying3
    have h1 : Rd enc Try.prog W 3 [a1] := by
      have y : Rd enc Try.prog W 3 ((([a0, a1] : List Value).drop 1).take (Try.prog.cellsOf 3)) := hf 1 _ rfl
      rw [show Try.prog.cellsOf 3 = 1 by kernel_rfl] at y
      exact y
    obtain ⟨x1, e1, w1⟩ := h1.int Try.underlying3
    simp only [List.cons.injEq, and_true] at e0 e1
    subst e0 e1
    exact ⟨⟨x0, x1⟩, rfl, bounds_i64 w0, bounds_i64 w1⟩
theorem deed_cells {cs : List Value} (h : Rd enc Try.prog W 54 cs) : ∃ x : DeD, cs = deedK.cells x ∧ deedK.ok W x := by
  obtain ⟨hl, hf⟩ := h.struct Try.underlying54
  rw [show Try.prog.cellsOf 54 = 2 by kernel_rfl] at hl
  match cs, hl with
  | [a0, a1], _ =>
    have h0 : Rd enc Try.prog W 3 [a0] := by
      have y : Rd enc Try.prog W 3 ((([a0, a1] : List Value).drop 0).take (Try.prog.cellsOf 3)) := hf 0 _ rfl
      rw [show Try.prog.cellsOf 3 = 1 by kernel_rfl] at y
      exact y
    obtain ⟨x0, e0, w0⟩ := h0.int Try.underlying3
    have h1 : Rd enc Try.prog W 24 [a1] := by
      have y : Rd enc Try.prog W 24 ((([a0, a1] : List Value).drop 1).take (Try.prog.cellsOf 24)) := hf 1 _ rfl
      rw [show Try.prog.cellsOf 24 = 1 by kernel_rfl] at y
      exact y
    obtain ⟨A1, n1, c1, e1, s1⟩ := h1.slice Try.underlying24 (by rw [show Try.prog.cellsOf 3 = 1 by kernel_rfl]; omega)
    obtain ⟨l1, i1, _⟩ := s1.ints Try.underlying3 (by kernel_rfl)
    simp only [List.cons.injEq, and_true] at e0 e1
    subst e0 e1
    have q1 := s1.2.1
    have r1 := s1.1
    unfold maxLen at q1
    have z1 := i1.1
    subst z1
    exact ⟨⟨⟨x0, l1⟩, A1, c1⟩, rfl, i1, r1, by omega⟩
theorem row_cells {cs : List Value} (h : Rd enc Try.prog W 52 cs) : ∃ x : RwD, cs = rowK.cells x ∧ rowK.ok W x := by
  obtain ⟨hl, hf⟩ := h.struct Try.underlying52
  rw [show Try.prog.cellsOf 52 = 8 by kernel_rfl] at hl
  match cs, hl with
  | [a0, a1, a2, a3, a4, a5, a6, a7], _ =>
    have h0 : Rd enc Try.prog W 3 [a0] := by
      have y : Rd enc Try.prog W 3 ((([a0, a1, a2, a3, a4, a5, a6, a7] : List Value).drop 0).take (Try.prog.cellsOf 3)) := hf 0 _ rfl
      rw [show Try.prog.cellsOf 3 = 1 by kernel_rfl] at y
      exact y
    obtain ⟨x0, e0, w0⟩ := h0.int Try.underlying3
    have h1 : Rd enc Try.prog W 3 [a1] := by
      have y : Rd enc Try.prog W 3 ((([a0, a1, a2, a3, a4, a5, a6, a7] : List Value).drop 1).take (Try.prog.cellsOf 3)) := hf 1 _ rfl
      rw [show Try.prog.cellsOf 3 = 1 by kernel_rfl] at y
      exact y
    obtain ⟨x1, e1, w1⟩ := h1.int Try.underlying3
    have h2 : Rd enc Try.prog W 3 [a2] := by
      have y : Rd enc Try.prog W 3 ((([a0, a1, a2, a3, a4, a5, a6, a7] : List Value).drop 2).take (Try.prog.cellsOf 3)) := hf 2 _ rfl
      rw [show Try.prog.cellsOf 3 = 1 by kernel_rfl] at y
      exact y
    obtain ⟨x2, e2, w2⟩ := h2.int Try.underlying3
    have h3 : Rd enc Try.prog W 3 [a3] := by
      have y : Rd enc Try.prog W 3 ((([a0, a1, a2, a3, a4, a5, a6, a7] : List Value).drop 3).take (Try.prog.cellsOf 3)) := hf 3 _ rfl
      rw [show Try.prog.cellsOf 3 = 1 by kernel_rfl] at y
      exact y
    obtain ⟨x3, e3, w3⟩ := h3.int Try.underlying3
    have h4 : Rd enc Try.prog W 3 [a4] := by
      have y : Rd enc Try.prog W 3 ((([a0, a1, a2, a3, a4, a5, a6, a7] : List Value).drop 4).take (Try.prog.cellsOf 3)) := hf 4 _ rfl
      rw [show Try.prog.cellsOf 3 = 1 by kernel_rfl] at y
      exact y
    obtain ⟨x4, e4, w4⟩ := h4.int Try.underlying3
    have h5 : Rd enc Try.prog W 3 [a5] := by
      have y : Rd enc Try.prog W 3 ((([a0, a1, a2, a3, a4, a5, a6, a7] : List Value).drop 5).take (Try.prog.cellsOf 3)) := hf 5 _ rfl
      rw [show Try.prog.cellsOf 3 = 1 by kernel_rfl] at y
      exact y
    obtain ⟨x5, e5, w5⟩ := h5.int Try.underlying3
    have h6 : Rd enc Try.prog W 24 [a6] := by
      have y : Rd enc Try.prog W 24 ((([a0, a1, a2, a3, a4, a5, a6, a7] : List Value).drop 6).take (Try.prog.cellsOf 24)) := hf 6 _ rfl
      rw [show Try.prog.cellsOf 24 = 1 by kernel_rfl] at y
      exact y
    obtain ⟨A6, n6, c6, e6, s6⟩ := h6.slice Try.underlying24 (by rw [show Try.prog.cellsOf 3 = 1 by kernel_rfl]; omega)
    obtain ⟨l6, i6, _⟩ := s6.ints Try.underlying3 (by kernel_rfl)
    have h7 : Rd enc Try.prog W 25 [a7] := by
      have y : Rd enc Try.prog W 25 ((([a0, a1, a2, a3, a4, a5, a6, a7] : List Value).drop 7).take (Try.prog.cellsOf 25)) := hf 7 _ rfl
      rw [show Try.prog.cellsOf 25 = 1 by kernel_rfl] at y
      exact y
    obtain ⟨A7, n7, c7, e7, s7⟩ := h7.slice Try.underlying25 (by rw [show Try.prog.cellsOf 50 = 2 by kernel_rfl]; omega)
    obtain ⟨l7, i7⟩ := structs_of (K := lockK) s7 (by kernel_rfl) (fun cs h => lock_cells h)
    simp only [List.cons.injEq, and_true] at e0 e1 e2 e3 e4 e5 e6 e7
    subst e0 e1 e2 e3 e4 e5 e6 e7
    have q6 := s6.2.1
    have r6 := s6.1
    have q7 := s7.2.1
    have r7 := s7.1
    unfold maxLen at q6 q7
    have z6 := i6.1
    have z7 := i7.len
    subst z6 z7
    exact ⟨⟨⟨x0, x1, x2, x3, x4, x5, l6, l7⟩, A6, c6, A7, c7⟩, rfl, i6, i7, ⟨r6, by omega⟩, ⟨r7, by omega⟩⟩
theorem rec_cells {cs : List Value} (h : Rd enc Try.prog W 30 cs) : ∃ x : MD, cs = (mCells x).toList ∧ MOk W x := by
  obtain ⟨hl, hf⟩ := h.struct Try.underlying30
  rw [show Try.prog.cellsOf 30 = 16 by kernel_rfl] at hl
  match cs, hl with
  | [a0, a1, a2, a3, a4, a5, a6, a7, a8, a9, a10, a11, a12, a13, a14, a15], _ =>
    have h0 : Rd enc Try.prog W 3 [a0] := by
      have y : Rd enc Try.prog W 3 ((([a0, a1, a2, a3, a4, a5, a6, a7, a8, a9, a10, a11, a12, a13, a14, a15] : List Value).drop 0).take (Try.prog.cellsOf 3)) := hf 0 _ rfl
      rw [show Try.prog.cellsOf 3 = 1 by kernel_rfl] at y
      exact y
    obtain ⟨x0, e0, w0⟩ := h0.int Try.underlying3
    have h1 : Rd enc Try.prog W 3 [a1] := by
      have y : Rd enc Try.prog W 3 ((([a0, a1, a2, a3, a4, a5, a6, a7, a8, a9, a10, a11, a12, a13, a14, a15] : List Value).drop 1).take (Try.prog.cellsOf 3)) := hf 1 _ rfl
      rw [show Try.prog.cellsOf 3 = 1 by kernel_rfl] at y
      exact y
    obtain ⟨x1, e1, w1⟩ := h1.int Try.underlying3
    have h2 : Rd enc Try.prog W 3 [a2] := by
      have y : Rd enc Try.prog W 3 ((([a0, a1, a2, a3, a4, a5, a6, a7, a8, a9, a10, a11, a12, a13, a14, a15] : List Value).drop 2).take (Try.prog.cellsOf 3)) := hf 2 _ rfl
      rw [show Try.prog.cellsOf 3 = 1 by kernel_rfl] at y
      exact y
    obtain ⟨x2, e2, w2⟩ := h2.int Try.underlying3
    have h3 : Rd enc Try.prog W 3 [a3] := by
      have y : Rd enc Try.prog W 3 ((([a0, a1, a2, a3, a4, a5, a6, a7, a8, a9, a10, a11, a12, a13, a14, a15] : List Value).drop 3).take (Try.prog.cellsOf 3)) := hf 3 _ rfl
      rw [show Try.prog.cellsOf 3 = 1 by kernel_rfl] at y
      exact y
    obtain ⟨x3, e3, w3⟩ := h3.int Try.underlying3
    have h4 : Rd enc Try.prog W 9 [a4] := by
      have y : Rd enc Try.prog W 9 ((([a0, a1, a2, a3, a4, a5, a6, a7, a8, a9, a10, a11, a12, a13, a14, a15] : List Value).drop 4).take (Try.prog.cellsOf 9)) := hf 4 _ rfl
      rw [show Try.prog.cellsOf 9 = 1 by kernel_rfl] at y
      exact y
    obtain ⟨x4, e4, w4⟩ := h4.string Try.underlying9
    have h5 : Rd enc Try.prog W 23 [a5, a6] := by
      have y : Rd enc Try.prog W 23 ((([a0, a1, a2, a3, a4, a5, a6, a7, a8, a9, a10, a11, a12, a13, a14, a15] : List Value).drop 5).take (Try.prog.cellsOf 23)) := hf 5 _ rfl
      rw [show Try.prog.cellsOf 23 = 2 by kernel_rfl] at y
      exact y
    obtain ⟨xh5, xd5, e5, w5⟩ := val_cells h5
    have h6 : Rd enc Try.prog W 23 [a7, a8] := by
      have y : Rd enc Try.prog W 23 ((([a0, a1, a2, a3, a4, a5, a6, a7, a8, a9, a10, a11, a12, a13, a14, a15] : List Value).drop 7).take (Try.prog.cellsOf 23)) := hf 6 _ rfl
      rw [show Try.prog.cellsOf 23 = 2 by kernel_rfl] at y
      exact y
    obtain ⟨xh6, xd6, e6, w6⟩ := val_cells h6
    have h7 : Rd enc Try.prog W 3 [a9] := by
      have y : Rd enc Try.prog W 3 ((([a0, a1, a2, a3, a4, a5, a6, a7, a8, a9, a10, a11, a12, a13, a14, a15] : List Value).drop 9).take (Try.prog.cellsOf 3)) := hf 7 _ rfl
      rw [show Try.prog.cellsOf 3 = 1 by kernel_rfl] at y
      exact y
    obtain ⟨x7, e7, w7⟩ := h7.int Try.underlying3
    have h8 : Rd enc Try.prog W 24 [a10] := by
      have y : Rd enc Try.prog W 24 ((([a0, a1, a2, a3, a4, a5, a6, a7, a8, a9, a10, a11, a12, a13, a14, a15] : List Value).drop 10).take (Try.prog.cellsOf 24)) := hf 8 _ rfl
      rw [show Try.prog.cellsOf 24 = 1 by kernel_rfl] at y
      exact y
    obtain ⟨A8, n8, c8, e8, s8⟩ := h8.slice Try.underlying24 (by rw [show Try.prog.cellsOf 3 = 1 by kernel_rfl]; omega)
    obtain ⟨l8, i8, _⟩ := s8.ints Try.underlying3 (by kernel_rfl)
    have h9 : Rd enc Try.prog W 25 [a11] := by
      have y : Rd enc Try.prog W 25 ((([a0, a1, a2, a3, a4, a5, a6, a7, a8, a9, a10, a11, a12, a13, a14, a15] : List Value).drop 11).take (Try.prog.cellsOf 25)) := hf 9 _ rfl
      rw [show Try.prog.cellsOf 25 = 1 by kernel_rfl] at y
      exact y
    obtain ⟨A9, n9, c9, e9, s9⟩ := h9.slice Try.underlying25 (by rw [show Try.prog.cellsOf 50 = 2 by kernel_rfl]; omega)
    obtain ⟨l9, i9⟩ := structs_of (K := lockK) s9 (by kernel_rfl) (fun cs h => lock_cells h)
    have h10 : Rd enc Try.prog W 26 [a12] := by
      have y : Rd enc Try.prog W 26 ((([a0, a1, a2, a3, a4, a5, a6, a7, a8, a9, a10, a11, a12, a13, a14, a15] : List Value).drop 12).take (Try.prog.cellsOf 26)) := hf 10 _ rfl
      rw [show Try.prog.cellsOf 26 = 1 by kernel_rfl] at y
      exact y
    obtain ⟨A10, n10, c10, e10, s10⟩ := h10.slice Try.underlying26 (by rw [show Try.prog.cellsOf 52 = 8 by kernel_rfl]; omega)
    obtain ⟨l10, i10⟩ := structs_of (K := rowK) s10 (by kernel_rfl) (fun cs h => row_cells h)
    have h11 : Rd enc Try.prog W 27 [a13] := by
      have y : Rd enc Try.prog W 27 ((([a0, a1, a2, a3, a4, a5, a6, a7, a8, a9, a10, a11, a12, a13, a14, a15] : List Value).drop 13).take (Try.prog.cellsOf 27)) := hf 11 _ rfl
      rw [show Try.prog.cellsOf 27 = 1 by kernel_rfl] at y
      exact y
    obtain ⟨A11, n11, c11, e11, s11⟩ := h11.slice Try.underlying27 (by rw [show Try.prog.cellsOf 92 = 2 by kernel_rfl]; omega)
    obtain ⟨l11, i11⟩ := structs_of (K := dirtyK) s11 (by kernel_rfl) (fun cs h => dirty_cells h)
    have h12 : Rd enc Try.prog W 28 [a14] := by
      have y : Rd enc Try.prog W 28 ((([a0, a1, a2, a3, a4, a5, a6, a7, a8, a9, a10, a11, a12, a13, a14, a15] : List Value).drop 14).take (Try.prog.cellsOf 28)) := hf 12 _ rfl
      rw [show Try.prog.cellsOf 28 = 1 by kernel_rfl] at y
      exact y
    obtain ⟨A12, n12, c12, e12, s12⟩ := h12.slice Try.underlying28 (by rw [show Try.prog.cellsOf 54 = 2 by kernel_rfl]; omega)
    obtain ⟨l12, i12⟩ := structs_of (K := deedK) s12 (by kernel_rfl) (fun cs h => deed_cells h)
    have h13 : Rd enc Try.prog W 24 [a15] := by
      have y : Rd enc Try.prog W 24 ((([a0, a1, a2, a3, a4, a5, a6, a7, a8, a9, a10, a11, a12, a13, a14, a15] : List Value).drop 15).take (Try.prog.cellsOf 24)) := hf 13 _ rfl
      rw [show Try.prog.cellsOf 24 = 1 by kernel_rfl] at y
      exact y
    obtain ⟨A13, n13, c13, e13, s13⟩ := h13.slice Try.underlying24 (by rw [show Try.prog.cellsOf 3 = 1 by kernel_rfl]; omega)
    obtain ⟨l13, i13, _⟩ := s13.ints Try.underlying3 (by kernel_rfl)
    simp only [List.cons.injEq, and_true] at e0 e1 e2 e3 e4 e5 e6 e7 e8 e9 e10 e11 e12 e13
    subst e0 e1 e2 e3 e4 e7 e8 e9 e10 e11 e12 e13
    obtain ⟨e51, e52⟩ := e5
    subst e51 e52
    obtain ⟨e61, e62⟩ := e6
    subst e61 e62
    have q8 := s8.2.1
    have r8 := s8.1
    have q9 := s9.2.1
    have r9 := s9.1
    have q10 := s10.2.1
    have r10 := s10.1
    have q11 := s11.2.1
    have r11 := s11.1
    have q12 := s12.2.1
    have r12 := s12.1
    have q13 := s13.2.1
    have r13 := s13.1
    unfold maxLen at q8 q9 q10 q11 q12 q13
    have z8 := i8.1
    subst z8
    have z13 := i13.1
    subst z13
    have z9 := i9.len
    subst z9
    have z10 := i10.len
    subst z10
    have z11 := i11.len
    subst z11
    have z12 := i12.len
    subst z12
    exact ⟨⟨x0, x1, x2, x3, x4, ⟨xh5, xd5⟩, ⟨xh6, xd6⟩, x7, l8, A8, c8, l9, A9, c9, l10, A10, c10, l11, A11, c11, l12, A12, c12, l13, A13, c13⟩, rfl, ⟨i8, ⟨r8, by omega⟩, i9, ⟨r9, by omega⟩, i10, ⟨r10, by omega⟩, i11, ⟨r11, by omega⟩, i12, ⟨r12, by omega⟩, i13, ⟨r13, by omega⟩⟩⟩
theorem open_rec {v : Value} {d : DataW H} {p : List MemPlace} {base : Nat} (hv : Value.okWide Try.prog W .any base 30 v) (h : DataW.Trod enc Try.prog W 0 (fun _ => true) true 30 v d p) :
    ∃ x : MD, v = mVal x ∧ MOk W x := by
  obtain ⟨cs, rfl, _⟩ := okWide_struct Try.underlying30 hv
  obtain ⟨x, e, r⟩ := rec_cells (rd_of h)
  refine ⟨x, ?_, r⟩
  simp only [Value.cells] at e
  congr 1
  exact Array.toList_inj.1 e
end
end Go.Proofs.Ytlijfnekopjogaa
