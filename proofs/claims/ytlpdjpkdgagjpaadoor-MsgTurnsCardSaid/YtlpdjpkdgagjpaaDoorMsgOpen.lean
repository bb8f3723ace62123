/- An argument that is a message. -/
import Derived.Test.YtlpdjpkdgagjpaaDoorOpen
import Derived.Test.YtlpdjpkdgagjpaaDoorMsgEnc
import Derived.Test.YtlpdjpkdgagjpaaDoorLift
namespace Go.Proofs.YtlpdjpkdgagjpaaDoor
open Go.ChangeShapes Go.WideShapes Go.ChangeAt Go.RowKit Mem Lift
set_option linter.unusedVariables false
set_option maxRecDepth 100000

section
variable {H : Type} {enc : TypeId × Value → H} {W : World}
theorem open_msg {v : Value} {d : DataW H} {p : List MemPlace} {base : Nat} (hv : Value.okWide Tryd.prog W .any base 60 v) (h : DataW.Trod enc Tryd.prog W 0 (fun _ => true) true 60 v d p) :
    ∃ (m : Mg.M) (A : Option Addr) (n c : Nat), v = mgVal m A n c ∧ IS W A n m.mem ∧ n ≤ c ∧ c ≤ maxLen ∧ Mg.Nums m := by
  obtain ⟨cs, rfl, _⟩ := okWide_struct Tryd.underlying60 hv
  have hr := rd_of h
  simp only [Value.cells] at hr
  obtain ⟨hl, hf⟩ := hr.struct Tryd.underlying60
  rw [show Tryd.prog.cellsOf 60 = 5 by kernel_rfl] at hl
  obtain ⟨l⟩ := cs
  simp only at hl hf
  match l, hl with
  | [a0, a1, a2, a3, a4], _ =>
    have h0 : Rd enc Tryd.prog W 3 [a0] := by
      have y : Rd enc Tryd.prog W 3 ((([a0, a1, a2, a3, a4] : List Value).drop 0).take (Tryd.prog.cellsOf 3)) := hf 0 _ rfl
      rw [show Tryd.prog.cellsOf 3 = 1 by kernel_rfl] at y
      exact y
    obtain ⟨x0, e0, w0⟩ := h0.int Tryd.underlying3
    have h1 : Rd enc Tryd.prog W 3 [a1] := by
      have y : Rd enc Tryd.prog W 3 ((([a0, a1, a2, a3, a4] : List Value).drop 1).take (Tryd.prog.cellsOf 3)) := hf 1 _ rfl
      rw [show Tryd.prog.cellsOf 3 = 1 by kernel_rfl] at y
      exact y
    obtain ⟨x1, e1, w1⟩ := h1.int Tryd.underlying3
    have h2 : Rd enc Tryd.prog W 3 [a2] := by
      have y : Rd enc Tryd.prog W 3 ((([a0, a1, a2, a3, a4] : List Value).drop 2).take (Tryd.prog.cellsOf 3)) := hf 2 _ rfl
      rw [show Tryd.prog.cellsOf 3 = 1 by kernel_rfl] at y
      exact y
    obtain ⟨x2, e2, w2⟩ := h2.int Tryd.underlying3
    have h3 : Rd enc Tryd.prog W 3 [a3] := by
      have y : Rd enc Tryd.prog W 3 ((([a0, a1, a2, a3, a4] : List Value).drop 3).take (Tryd.prog.cellsOf 3)) := hf 3 _ rfl
      rw [show Tryd.prog.cellsOf 3 = 1 by kernel_rfl] at y
      exact y
    obtain ⟨x3, e3, w3⟩ := h3.int Tryd.underlying3
    have h4 : Rd enc Tryd.prog W 58 [a4] := by
      have y : Rd enc Tryd.prog W 58 ((([a0, a1, a2, a3, a4] : List Value).drop 4).take (Tryd.prog.cellsOf 58)) := hf 4 _ rfl
      rw [show Tryd.prog.cellsOf 58 = 1 by kernel_rfl] at y
      exact y
    obtain ⟨A, n, c, e4, hs⟩ := h4.slice Tryd.underlying58 (by rw [show Tryd.prog.cellsOf 3 = 1 by kernel_rfl]; omega)
    simp only [List.cons.injEq, and_true] at e0 e1 e2 e3 e4
    subst e0 e1 e2 e3 e4
    obtain ⟨ks, hk, hkb⟩ := hs.ints Tryd.underlying3 (by kernel_rfl)
    refine ⟨⟨x0, x1, x2, x3, ks⟩, A, n, c, rfl, hk, hs.1, hs.2.1, ⟨fun x hx => ?_, hkb⟩⟩
    simp only [Mg.M.vals, List.mem_cons, List.not_mem_nil, or_false] at hx
    rcases hx with rfl | rfl | rfl | rfl
    · exact bounds_i64 w0
    · exact bounds_i64 w1
    · exact bounds_i64 w2
    · exact bounds_i64 w3
end
end Go.Proofs.YtlpdjpkdgagjpaaDoor
