/- Opening api.Crash and the calls of trothlaw04. -/
import Derived.Test.YtaooimhodoefoaaRows
import Derived.Test.YtaooimhodoefoaaOpen
namespace Go.Proofs.Ytaooimhodoefoaa
open Go.ChangeShapes Go.WideShapes Go.ChangeAt Go.RowKit Mem Lift

structure CallD where
  kind : Int
  n : Int
  b : UInt8
  dA : Option Addr
  dn : Nat
  dc : Nat
  data : List UInt8
  kA : Option Addr
  kn : Nat
  kc : Nat
  keep : List Int
  torn : Bool
  cut : Int
def CallD.zero : CallD := ⟨0, 0, 0, none, 0, 0, [], none, 0, 0, [], false, 0⟩
def CallD.cells (x : CallD) : List Value := [.int .i64 x.kind, .int .i64 x.n, u8 x.b, .slice x.dA x.dn x.dc, .slice x.kA x.kn x.kc, .bool x.torn, .int .i64 x.cut]
structure CallD.Ok (w : World) (x : CallD) : Prop where
  data : BS w x.dA x.dn x.data
  keep : IS w x.kA x.kn x.keep
  dc : x.dn ≤ x.dc ∧ x.dc ≤ maxLen
  kc : x.kn ≤ x.kc ∧ x.kc ≤ maxLen
  kind : -9223372036854775808 ≤ x.kind ∧ x.kind ≤ 9223372036854775807
  n : -9223372036854775808 ≤ x.n ∧ x.n ≤ 9223372036854775807
  cut : -9223372036854775808 ≤ x.cut ∧ x.cut ≤ 9223372036854775807
theorem CallD.Ok.below {w w' : World} {x : CallD} (h : x.Ok w) (hb : Below w.heap.size w w') : x.Ok w' := ⟨h.data.below hb, h.keep.below hb, h.dc, h.kc, h.kind, h.n, h.cut⟩
/-- THE SLICE READS AS THE CALLS l. -/
structure CS (w : World) (A : Option Addr) (n : Nat) (l : List CallD) : Prop where
  len : l.length = n
  ok : ∀ x ∈ l, x.Ok w
  mem : 0 < n → ∃ b off, A = some ⟨b, off, none⟩ ∧ b < w.heap.size ∧ ∀ i, i < l.length → ∀ j, j < 7 → w.cell? ⟨b, off + i * 7 + j, none⟩ = (l.getD i .zero).cells[j]?
theorem CS.below {w w' : World} {A : Option Addr} {n : Nat} {l : List CallD} (h : CS w A n l) (hb : Below w.heap.size w w') : CS w' A n l := by
  refine ⟨h.len, fun x hx => (h.ok x hx).below hb, fun hn => ?_⟩
  obtain ⟨b, off, rfl, hlt, hc⟩ := h.mem hn
  exact ⟨b, off, rfl, Nat.lt_of_lt_of_le hlt hb.size, fun i hi j hj => (World.cell?_of_block (hb.block b hlt)).trans (hc i hi j hj)⟩
theorem CS.at_ {w : World} {A : Option Addr} {n : Nat} {l : List CallD} (h : CS w A n l) {i : Nat} (hi : i < n) : ∃ b off, A = some ⟨b, off, none⟩ ∧ w.cell? ⟨b, off + i * 7, none⟩ = some (.int .i64 (l.getD i .zero).kind) ∧ w.cell? ⟨b, off + i * 7 + 1, none⟩ = some (.int .i64 (l.getD i .zero).n) ∧
    w.cell? ⟨b, off + i * 7 + 2, none⟩ = some (u8 (l.getD i .zero).b) ∧ w.cell? ⟨b, off + i * 7 + 3, none⟩ = some (.slice (l.getD i .zero).dA (l.getD i .zero).dn (l.getD i .zero).dc) ∧
    w.cell? ⟨b, off + i * 7 + 4, none⟩ = some (.slice (l.getD i .zero).kA (l.getD i .zero).kn (l.getD i .zero).kc) ∧ w.cell? ⟨b, off + i * 7 + 5, none⟩ = some (.bool (l.getD i .zero).torn) ∧ w.cell? ⟨b, off + i * 7 + 6, none⟩ = some (.int .i64 (l.getD i .zero).cut) ∧ (l.getD i .zero).Ok w := by
  obtain ⟨b, off, rfl, _, hc⟩ := h.mem (by omega)
  have hl : i < l.length := by rw [h.len]; exact hi
  have hm : l.getD i .zero ∈ l := by rw [List.getD_eq_getElem?_getD, List.getElem?_eq_getElem hl]; simp
  exact ⟨b, off, rfl, hc i hl 0 (by omega), hc i hl 1 (by omega), hc i hl 2 (by omega), hc i hl 3 (by omega), hc i hl 4 (by omega), hc i hl 5 (by omega), hc i hl 6 (by omega), h.ok _ hm⟩

theorem list3 {α : Type} {cs : List α} (h : cs.length = 3) : ∃ a b c, cs = [a, b, c] := by
  match cs, h with
  | [a, b, c], _ => exact ⟨a, b, c, rfl⟩
theorem list7 {α : Type} {cs : List α} (h : cs.length = 7) : ∃ a b c d e f g, cs = [a, b, c, d, e, f, g] := by
  match cs, h with
  | [a, b, c, d, e, f, g], _ => exact ⟨a, b, c, d, e, f, g, rfl⟩
section
variable {H : Type} {enc : TypeId × Value → H} {W : World}
theorem crash_cells {cs : List Value} (h : Rd enc Try.prog W 52 cs) : ∃ AK nk ck torn cut ks, cs = [.slice AK nk ck, .bool torn, .int .i64 cut] ∧ IS W AK nk ks ∧ nk ≤ ck ∧ ck ≤ maxLen ∧ -9223372036854775808 ≤ cut ∧ cut ≤ 9223372036854775807 := by
  obtain ⟨hl, hf⟩ := h.struct Try.underlying52
  rw [show Try.prog.cellsOf 52 = 3 by kernel_rfl] at hl
  obtain ⟨a, b, c, rfl⟩ := list3 hl
  · skip
    have h0 : Rd enc Try.prog W 50 [a] := by
      have y : Rd enc Try.prog W 50 ((([a, b, c] : List Value).drop 0).take (Try.prog.cellsOf 50)) := hf 0 _ rfl
      rw [show Try.prog.cellsOf 50 = 1 by kernel_rfl] at y
      exact y
    have h1 : Rd enc Try.prog W 4 [b] := by
      have y : Rd enc Try.prog W 4 ((([a, b, c] : List Value).drop 1).take (Try.prog.cellsOf 4)) := hf 1 _ rfl
      rw [show Try.prog.cellsOf 4 = 1 by kernel_rfl] at y
      exact y
    have h2 : Rd enc Try.prog W 3 [c] := by
      have y : Rd enc Try.prog W 3 ((([a, b, c] : List Value).drop 2).take (Try.prog.cellsOf 3)) := hf 2 _ rfl
      rw [show Try.prog.cellsOf 3 = 1 by kernel_rfl] at y
      exact y
    obtain ⟨AK, nk, ck, e0, hs⟩ := h0.slice Try.underlying50 (by rw [show Try.prog.cellsOf 3 = 1 by kernel_rfl]; omega)
    obtain ⟨torn, e1⟩ := h1.bool Try.underlying4
    obtain ⟨cut, e2, hw⟩ := h2.int Try.underlying3
    simp only [List.cons.injEq, and_true] at e0 e1 e2
    subst e0 e1 e2
    obtain ⟨ks, hk, _⟩ := hs.ints Try.underlying3 (by kernel_rfl)
    have hb := bounds_i64 hw
    exact ⟨AK, nk, ck, torn, cut, ks, rfl, hk, hs.1, hs.2.1, hb.1, hb.2⟩
theorem open_crash {v : Value} {d : DataW H} {p : List MemPlace} {base : Nat} (hv : Value.okWide Try.prog W .any base 52 v) (h : DataW.Trod enc Try.prog W 0 (fun _ => true) true 52 v d p) :
    ∃ AK nk ck torn cut ks, v = .agg #[.slice AK nk ck, .bool torn, .int .i64 cut] ∧ IS W AK nk ks ∧ nk ≤ ck ∧ ck ≤ maxLen ∧ -9223372036854775808 ≤ cut ∧ cut ≤ 9223372036854775807 := by
  obtain ⟨cs, rfl, _⟩ := okWide_struct Try.underlying52 hv
  obtain ⟨AK, nk, ck, torn, cut, ks, e, r⟩ := crash_cells (rd_of h)
  refine ⟨AK, nk, ck, torn, cut, ks, ?_, r⟩
  simp only [Value.cells] at e
  rw [← e]
theorem call_cells {cs : List Value} (h : Rd enc Try.prog W 70 cs) : ∃ x : CallD, cs = x.cells ∧ x.Ok W := by
  obtain ⟨hl, hf⟩ := h.struct Try.underlying70
  rw [show Try.prog.cellsOf 70 = 7 by kernel_rfl] at hl
  obtain ⟨a0, a1, a2, a3, a4, a5, a6, rfl⟩ := list7 hl
  · skip
    have h0 : Rd enc Try.prog W 3 [a0] := by
      have y : Rd enc Try.prog W 3 ((([a0, a1, a2, a3, a4, a5, a6] : List Value).drop 0).take (Try.prog.cellsOf 3)) := hf 0 _ rfl
      rw [show Try.prog.cellsOf 3 = 1 by kernel_rfl] at y
      exact y
    have h1 : Rd enc Try.prog W 3 [a1] := by
      have y : Rd enc Try.prog W 3 ((([a0, a1, a2, a3, a4, a5, a6] : List Value).drop 1).take (Try.prog.cellsOf 3)) := hf 1 _ rfl
      rw [show Try.prog.cellsOf 3 = 1 by kernel_rfl] at y
      exact y
    have h2 : Rd enc Try.prog W 5 [a2] := by
      have y : Rd enc Try.prog W 5 ((([a0, a1, a2, a3, a4, a5, a6] : List Value).drop 2).take (Try.prog.cellsOf 5)) := hf 2 _ rfl
      rw [show Try.prog.cellsOf 5 = 1 by kernel_rfl] at y
      exact y
    have h3 : Rd enc Try.prog W 22 [a3] := by
      have y : Rd enc Try.prog W 22 ((([a0, a1, a2, a3, a4, a5, a6] : List Value).drop 3).take (Try.prog.cellsOf 22)) := hf 3 _ rfl
      rw [show Try.prog.cellsOf 22 = 1 by kernel_rfl] at y
      exact y
    have h4 : Rd enc Try.prog W 52 [a4, a5, a6] := by
      have y : Rd enc Try.prog W 52 ((([a0, a1, a2, a3, a4, a5, a6] : List Value).drop 4).take (Try.prog.cellsOf 52)) := hf 4 _ rfl
      rw [show Try.prog.cellsOf 52 = 3 by kernel_rfl] at y
      exact y
    obtain ⟨kind, e0, w0⟩ := h0.int Try.underlying3
    obtain ⟨n, e1, w1⟩ := h1.int Try.underlying3
    obtain ⟨b, e2, w2⟩ := h2.int Try.underlying5
    obtain ⟨dA, dn, dc, e3, hs⟩ := h3.slice Try.underlying22 (by rw [show Try.prog.cellsOf 5 = 1 by kernel_rfl]; omega)
    obtain ⟨AK, nk, ck, torn, cut, ks, e4, hk, hk1, hk2, hk3⟩ := crash_cells h4
    simp only [List.cons.injEq, and_true] at e0 e1 e2 e3 e4
    obtain ⟨e4, e5, e6⟩ := e4
    subst e0 e1 e2 e3 e4 e5 e6
    obtain ⟨data, hd⟩ := hs.bytes Try.underlying5 (by kernel_rfl)
    have hb := bounds_u8 w2
    refine ⟨⟨kind, n, UInt8.ofNat b.toNat, dA, dn, dc, data, AK, nk, ck, ks, torn, cut⟩, ?_, ⟨hd, hk, ⟨hs.1, hs.2.1⟩, ⟨hk1, hk2⟩, bounds_i64 w0, bounds_i64 w1, hk3⟩⟩
    have e2 : (UInt8.ofNat b.toNat).toNat = b.toNat := by
      rw [UInt8.toNat_ofNat']
      exact Nat.mod_eq_of_lt (by omega)
    simp only [CallD.cells, u8, e2, Int.toNat_of_nonneg hb.1]
theorem open_calls {v : Value} {d : DataW H} {p : List MemPlace} {base : Nat} (hv : Value.okWide Try.prog W .any base 49 v) (h : DataW.Trod enc Try.prog W 0 (fun _ => true) true 49 v d p) :
    ∃ A n c l, v = .slice A n c ∧ CS W A n l ∧ n ≤ c ∧ c ≤ maxLen := by
  obtain ⟨A, n, c, rfl⟩ := okWide_slice Try.underlying49 hv
  have h7 : Try.prog.cellsOf 70 = 7 := by kernel_rfl
  obtain ⟨A', n', c', e, hs⟩ := (rd_of h).slice Try.underlying49 (by rw [h7]; omega)
  simp [Value.cells] at e
  obtain ⟨rfl, rfl, rfl⟩ := e
  obtain ⟨hn, hc, hx⟩ := hs
  rcases Nat.eq_zero_or_pos n with rfl | hp
  · exact ⟨A, 0, c, [], rfl, ⟨rfl, fun x hx => (by cases hx), fun h => absurd h (by omega)⟩, hn, hc⟩
  · obtain ⟨b, off, rfl, hb, hx⟩ := hx hp
    obtain ⟨l, hl, hq⟩ := list_of (n := n) (q := fun i (x : CallD) => (∀ j, j < 7 → W.cell? ⟨b, off + i * 7 + j, none⟩ = x.cells[j]?) ∧ x.Ok W) (fun i hi => by
      obtain ⟨es, h1, h2, h3⟩ := hx i hi
      obtain ⟨x, rfl, hok⟩ := call_cells h3
      rw [h7] at h2
      exact ⟨x, h2, hok⟩)
    refine ⟨_, n, c, l, rfl, ⟨hl, fun x hx => ?_, fun _ => ⟨b, off, rfl, hb, fun i hi j hj => ?_⟩⟩, hn, hc⟩
    · obtain ⟨i, hi, rfl⟩ := List.getElem_of_mem hx
      exact (hq i hi).2
    · rw [List.getD_eq_getElem?_getD, List.getElem?_eq_getElem hi]
      exact (hq i hi).1 j hj
end
end Go.Proofs.Ytaooimhodoefoaa
