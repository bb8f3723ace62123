/- Arguments of layer 8: bodies, a sheet. -/
import Derived.Test.YtlpdjpkdgagjpaaDoorSheetAwake
import Derived.Test.YtlpdjpkdgagjpaaDoorRowsOf
namespace Go.Proofs.YtlpdjpkdgagjpaaDoor
open Go.ChangeShapes Go.WideShapes Go.ChangeAt Go.RowKit Mem Lift
set_option linter.unusedVariables false
set_option maxRecDepth 100000

theorem body_cells {H : Type} {enc : TypeId × Value → H} {W : World} (cs : List Value) (h : Rd enc Tryd.prog W 38 cs) : ∃ x : Bd, cs = bodyK.cells x ∧ bodyK.ok W x := by
  obtain ⟨A, n, c, rfl, hs⟩ := h.slice Tryd.underlying38 (by rw [show Tryd.prog.cellsOf 5 = 1 by kernel_rfl]; omega)
  obtain ⟨bs, hb⟩ := hs.bytes Tryd.underlying5 (by kernel_rfl)
  exact ⟨⟨A, n, c, bs⟩, rfl, hb, hs.1, hs.2.1⟩
section
variable {H : Type} {enc : TypeId × Value → H} {W : World}
theorem open_sheet {v : Value} {d : DataW H} {p : List MemPlace} {base : Nat} (hv : Value.okWide Tryd.prog W .any base 47 v) (h : DataW.Trod enc Tryd.prog W 0 (fun _ => true) true 47 v d p) :
    ∃ (s : Sh.Sd), v = .agg (sdCells s) ∧ (-9223372036854775808 ≤ s.inc ∧ s.inc ≤ 9223372036854775807) ∧ (-9223372036854775808 ≤ s.pos ∧ s.pos ≤ 9223372036854775807) ∧ (-9223372036854775808 ≤ s.first ∧ s.first ≤ 9223372036854775807) ∧ s.data.length ≤ 9223372036854775807 := by
  obtain ⟨cs, rfl, _⟩ := okWide_struct Tryd.underlying47 hv
  have hr := rd_of h
  simp only [Value.cells] at hr
  obtain ⟨hl, hf⟩ := hr.struct Tryd.underlying47
  rw [show Tryd.prog.cellsOf 47 = 4 by kernel_rfl] at hl
  obtain ⟨l⟩ := cs
  simp only at hl hf
  match l, hl with
  | [a0, a1, a2, a3], _ =>
    have h0 : Rd enc Tryd.prog W 3 [a0] := by
      have y : Rd enc Tryd.prog W 3 ((([a0, a1, a2, a3] : List Value).drop 0).take (Tryd.prog.cellsOf 3)) := hf 0 _ rfl
      rw [show Tryd.prog.cellsOf 3 = 1 by kernel_rfl] at y
      exact y
    have h1 : Rd enc Tryd.prog W 3 [a1] := by
      have y : Rd enc Tryd.prog W 3 ((([a0, a1, a2, a3] : List Value).drop 1).take (Tryd.prog.cellsOf 3)) := hf 1 _ rfl
      rw [show Tryd.prog.cellsOf 3 = 1 by kernel_rfl] at y
      exact y
    have h2 : Rd enc Tryd.prog W 3 [a2] := by
      have y : Rd enc Tryd.prog W 3 ((([a0, a1, a2, a3] : List Value).drop 2).take (Tryd.prog.cellsOf 3)) := hf 2 _ rfl
      rw [show Tryd.prog.cellsOf 3 = 1 by kernel_rfl] at y
      exact y
    have h3 : Rd enc Tryd.prog W 9 [a3] := by
      have y : Rd enc Tryd.prog W 9 ((([a0, a1, a2, a3] : List Value).drop 3).take (Tryd.prog.cellsOf 9)) := hf 3 _ rfl
      rw [show Tryd.prog.cellsOf 9 = 1 by kernel_rfl] at y
      exact y
    obtain ⟨x0, e0, w0⟩ := h0.int Tryd.underlying3
    obtain ⟨x1, e1, w1⟩ := h1.int Tryd.underlying3
    obtain ⟨x2, e2, w2⟩ := h2.int Tryd.underlying3
    obtain ⟨⟨⟨s⟩⟩, e3, w3⟩ := h3.string Tryd.underlying9
    simp only [List.cons.injEq, and_true] at e0 e1 e2 e3
    subst e0 e1 e2 e3
    exact ⟨⟨x0, x1, x2, s⟩, rfl, bounds_i64 w0, bounds_i64 w1, bounds_i64 w2, w3⟩
end
namespace Sh
theorem layR_data (inc pos : Int) (bs : List (List UInt8)) : ∀ s ∈ (layR inc pos bs).1, s.data.length ≤ 242 := by
  unfold layR
  split
  · intro s hs; cases hs
  · split
    · intro s hs; cases hs
    · split
      · intro s hs; cases hs
      · exact laid_data _ _ _ _
theorem layR_len (inc pos : Int) (bs : List (List UInt8)) : (layR inc pos bs).1.length ≤ (flat bs).length := by
  have hc : count bs ≤ (flat bs).length := by unfold count; omega
  unfold layR
  split
  · simp
  · split
    · simp
    · split
      · simp
      · simp only [laid_length]; exact hc
theorem flat_great {bs : List (List UInt8)} (h : great bs = false) : (flat bs).length ≤ 60240 ∧ bs.length ≤ 40 ∧ (∀ b ∈ bs, b.length ≤ 1500) ∧ long bs = false := by
  obtain ⟨h1, h2⟩ := great_false h
  exact ⟨flat_len (by omega) h1 h2, h1, h2, long_of (fun b hb => by have := h2 b hb; omega)⟩
theorem flat_zeros (k : Nat) (hk : k ≤ 5000) : (flat [List.replicate k 0]).length ≤ 700000 := by
  rw [flat_cons, flat_nil, List.append_nil, seal_len _ (by simp; omega)]
  simp only [List.length_replicate]
  split <;> omega
theorem zeros_ok (k : Nat) (hk : k ≤ 4096) : (layR 0 0 [List.replicate k 0]).2 = 0 := by
  have hl : long [List.replicate k (0 : UInt8)] = false := long_of (fun b hb => by rw [List.mem_singleton] at hb; subst hb; simpa using hk)
  have hf : fullAt 0 (count [List.replicate k 0]) = false := by
    have := flat_zeros k (by omega)
    unfold fullAt count
    rw [decide_eq_false_iff_not]
    omega
  rw [layR_ok (by decide) hl hf]
theorem zeros_long : (layR 0 0 [List.replicate 4097 0]).2 = 12 := by
  have hl : long [List.replicate 4097 (0 : UInt8)] = true := long_true (List.mem_singleton_self _) (by simp)
  rw [layR_long (by decide) hl]
end Sh
theorem lay_zeros (k : Nat) (hk : k ≤ 5000) (w : World) (ht : Half w) :
    Below w.heap.size w ((mkB 5 k w).alloc (.cells #[.slice (some ⟨w.heap.size, 0, none⟩) k k] 38)) ∧
    Calls Tryd.prog 17 #[.int .i64 0, .int .i64 0, .slice (some ⟨w.heap.size + 1, 0, none⟩) 1 1] ((mkB 5 k w).alloc (.cells #[.slice (some ⟨w.heap.size, 0, none⟩) k k] 38)) (LayP ((mkB 5 k w).alloc (.cells #[.slice (some ⟨w.heap.size, 0, none⟩) k k] 38)) (Sh.layR 0 0 [List.replicate k 0])) := by
  have hbs : BS (mkB 5 k w) (some ⟨w.heap.size, 0, none⟩) k (List.replicate k 0) := by
    have := BS.made w (zerosA k) 5 (0, 0) (List.replicate k 0) (by rw [zerosA_list])
    simpa [mkB] using this
  have hb2 : Below w.heap.size w ((mkB 5 k w).alloc (.cells #[.slice (some ⟨w.heap.size, 0, none⟩) k k] 38)) := (mkB_below _ _ _).alloc (by rw [mkB_size]; omega) _
  have hst : ST bodyK ((mkB 5 k w).alloc (.cells #[.slice (some ⟨w.heap.size, 0, none⟩) k k] 38)) (some ⟨w.heap.size + 1, 0, none⟩) 1 [⟨some ⟨w.heap.size, 0, none⟩, k, k, List.replicate k 0⟩] := by
    have hk' := Blk.new (mkB 5 k w) 38 #[.slice (some ⟨w.heap.size, 0, none⟩) k k]
    rw [mkB_size] at hk'
    exact st_body (x := ⟨some ⟨w.heap.size, 0, none⟩, k, k, List.replicate k 0⟩) hk' ⟨hbs.below ((Below.refl _ _).alloc (Nat.le_refl _) _), Nat.le_refl _, by simp only; omega⟩
  exact ⟨hb2, lay_any 0 0 _ 1 1 _ [List.replicate k 0] _ rfl hst (by omega) (Sh.flat_zeros k hk) (by omega) (by omega) (ht.below hb2)⟩
end Go.Proofs.YtlpdjpkdgagjpaaDoor
