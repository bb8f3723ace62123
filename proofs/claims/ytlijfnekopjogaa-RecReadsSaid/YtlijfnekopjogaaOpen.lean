/- Opening arguments of whatever depth: ints, bools, strings, slices, structs. -/
import Derived.Test.YtlijfnekopjogaaLift
import Derived.Test.YtlijfnekopjogaaInts
import Derived.Deep.Slices
namespace Go.Proofs.Ytlijfnekopjogaa.Lift
open Go Go.ChangeShapes Go.WideShapes Go.ChangeAt Go.RowKit Mem
section
variable {H : Type} {enc : TypeId × Value → H} {P : Program} {W : World}
/-- THE CELLS READ AS A VALUE OF THE TYPE. -/
def Rd (enc : TypeId × Value → H) (P : Program) (W : World) (t : TypeId) (cs : List Value) : Prop := ∃ fuel x, DataW.trod enc P W 0 (fun _ => true) true fuel t cs = some x
theorem rd_of {t : TypeId} {v : Value} {d : DataW H} {p : List MemPlace} (h : DataW.Trod enc P W 0 (fun _ => true) true t v d p) : Rd enc P W t v.cells.toList := by
  obtain ⟨f, h⟩ := h
  exact ⟨f, _, h⟩
theorem Rd.int {t : TypeId} {k : IntKind} {cs : List Value} (h : Rd enc P W t cs) (ht : P.underlying t = some (.int k)) : ∃ n, cs = [.int k n] ∧ (Lit.int k n).wf = true := by
  obtain ⟨f, x, h⟩ := h
  obtain ⟨n, h1, _, h2⟩ := DataW.trod_int ht h
  exact ⟨n, h1, h2⟩
theorem Rd.bool {t : TypeId} {cs : List Value} (h : Rd enc P W t cs) (ht : P.underlying t = some .bool) : ∃ b, cs = [.bool b] := by
  obtain ⟨f, x, h⟩ := h
  obtain ⟨n, h1, _⟩ := DataW.trod_bool ht h
  exact ⟨n, h1⟩
theorem Rd.string {t : TypeId} {cs : List Value} (h : Rd enc P W t cs) (ht : P.underlying t = some .string) : ∃ s : ByteArray, cs = [.string s] ∧ s.size ≤ maxLen := by
  obtain ⟨f, x, h⟩ := h
  obtain ⟨n, h1, _, h2⟩ := DataW.trod_string ht h
  exact ⟨n, h1, h2⟩
theorem Rd.struct {t : TypeId} {fs : Array Field} {cs : List Value} (h : Rd enc P W t cs) (ht : P.underlying t = some (.struct fs)) : cs.length = P.cellsOf t ∧ ∀ (i : Nat) (f : Field), fs[i]? = some f → Rd enc P W f.type ((cs.drop f.offset).take (P.cellsOf f.type)) := by
  obtain ⟨f, x, h⟩ := h
  obtain ⟨xs, n, _, _, h1, h2, h3⟩ := DataW.trod_struct ht h
  refine ⟨h1, fun i f hi => ?_⟩
  have hlt : i < xs.length := by
    rw [h2]
    rcases Nat.lt_or_ge i fs.size with hl | hl
    · exact hl
    · rw [Array.getElem?_eq_none hl] at hi; cases hi
  refine ⟨n, xs[i], ?_⟩
  rw [h3 i f hi, List.getElem?_eq_getElem hlt]
theorem mapM_range {α : Type} (f : Nat → Option α) : ∀ (l : List Nat) (cs : List α), l.mapM f = some cs → cs.length = l.length ∧ ∀ (j : Nat) (hj : j < l.length), f l[j] = cs[j]?
  | [], cs, h => by simp at h; subst h; exact ⟨rfl, fun j hj => by simp at hj⟩
  | a :: l, cs, h => by
    rw [List.mapM_cons] at h
    cases hf : f a with
    | none => rw [hf] at h; cases h
    | some x =>
      rw [hf] at h
      cases hm : l.mapM f with
      | none => rw [hm] at h; cases h
      | some ys =>
        rw [hm] at h
        have hcs : cs = x :: ys := by cases h; rfl
        subst hcs
        obtain ⟨h1, h2⟩ := mapM_range f l ys hm
        refine ⟨by simp [h1], fun j hj => ?_⟩
        cases j with
        | zero => simpa using hf
        | succ j => simpa using h2 j (by simpa using hj)
theorem cells_each {a : Addr} {n : Nat} {cs : List Value} (h : W.cells? 0 a n = some cs) : cs.length = n ∧ ∀ j, j < n → W.cell? (a.add j) = cs[j]? := by
  unfold World.cells? at h
  rw [if_pos (Nat.zero_le _)] at h
  obtain ⟨h1, h2⟩ := mapM_range _ _ _ h
  refine ⟨by simpa using h1, fun j hj => ?_⟩
  have := h2 j (by simpa using hj)
  simpa using this
theorem cells_at {b off n : Nat} {cs : List Value} (h : W.cells? 0 ⟨b, off, none⟩ n = some cs) : cs.length = n ∧ ∀ j, j < n → W.cell? ⟨b, off + j, none⟩ = cs[j]? := by
  obtain ⟨h1, h2⟩ := cells_each h
  refine ⟨h1, fun j hj => ?_⟩
  have hadd : (⟨b, off, none⟩ : Addr).add j = ⟨b, off + j, none⟩ := by unfold Addr.add; split <;> simp_all
  rw [← hadd]
  exact h2 j hj
/-- the slice's elements, each with its cells -/
def SliceOf (enc : TypeId × Value → H) (P : Program) (W : World) (e : TypeId) (A : Option Addr) (n c : Nat) : Prop :=
  n ≤ c ∧ c ≤ maxLen ∧ (0 < n → ∃ b off, A = some ⟨b, off, none⟩ ∧ b < W.heap.size ∧ ∀ i, i < n → ∃ es : List Value, es.length = P.cellsOf e ∧ (∀ j, j < P.cellsOf e → W.cell? ⟨b, off + i * P.cellsOf e + j, none⟩ = es[j]?) ∧ Rd enc P W e es)
theorem Rd.slice {t e : TypeId} {cs : List Value} (h : Rd enc P W t cs) (ht : P.underlying t = some (.slice e)) (he : 0 < P.cellsOf e) : ∃ A n c, cs = [.slice A n c] ∧ SliceOf enc P W e A n c := by
  obtain ⟨f, x, h⟩ := h
  rcases Deep.open_slice ht h with ⟨rfl, _⟩ | ⟨a, len, cap, m, n, D, Pl, rfl, _, hl, hm, hmm, _, hx⟩
  · exact ⟨none, 0, 0, rfl, by omega, by simp [maxLen], fun h => absurd h (by omega)⟩
  · simp only [if_true] at hmm
    refine ⟨some a, len, cap, rfl, hl, hm, fun hn => ?_⟩
    obtain ⟨b, off, spot⟩ := a
    obtain ⟨es, h1, _⟩ := hx 0 (by omega)
    have hspot : spot = none := by
      obtain ⟨h2, h3⟩ := cells_each h1
      have h4 := h3 0 he
      rw [List.getElem?_eq_getElem (show 0 < es.length by omega)] at h4
      have := World.cell?_spot h4
      simpa [Addr.add] using this
    subst hspot
    have hadd : ∀ i, (⟨b, off, none⟩ : Addr).add i = ⟨b, off + i, none⟩ := by intro i; unfold Addr.add; split <;> simp_all
    refine ⟨b, off, rfl, ?_, fun i hi => ?_⟩
    · rw [hadd] at h1
      obtain ⟨h2, h3⟩ := cells_at h1
      have h4 := h3 0 he
      have h5 : 0 < es.length := by omega
      rw [List.getElem?_eq_getElem h5] at h4
      exact World.block_lt_of_cell? W _ h4
    · obtain ⟨es, h1, h2⟩ := hx i (by omega)
      rw [hadd] at h1
      obtain ⟨h3, h4⟩ := cells_at h1
      exact ⟨es, h3, h4, n, _, h2⟩
/-- a list out of its members, one by one -/
theorem list_of {α : Type} {n : Nat} {q : Nat → α → Prop} (h : ∀ i, i < n → ∃ a, q i a) : ∃ l : List α, l.length = n ∧ ∀ i (hi : i < l.length), q i l[i] := by
  induction n with
  | zero => exact ⟨[], rfl, fun i hi => absurd hi (by simp)⟩
  | succ n ih =>
    obtain ⟨l, h1, h2⟩ := ih (fun i hi => h i (by omega))
    obtain ⟨a, ha⟩ := h n (by omega)
    refine ⟨l ++ [a], by simp [h1], fun i hi => ?_⟩
    rcases Nat.lt_or_ge i l.length with hl | hl
    · rw [List.getElem_append_left hl]; exact h2 i hl
    · obtain rfl : i = n := by simp at hi; omega
      rw [List.getElem_append_right (by omega)]
      simpa [h1] using ha
theorem SliceOf.bytes {e : TypeId} {A : Option Addr} {n c : Nat} (h : SliceOf enc P W e A n c) (he : P.underlying e = some (.int .u8)) (hc : P.cellsOf e = 1) : ∃ bs, BS W A n bs := by
  rcases Nat.eq_zero_or_pos n with rfl | hn
  · exact ⟨[], BS.empty _ _⟩
  · obtain ⟨b, off, rfl, hb, hx⟩ := h.2.2 hn
    obtain ⟨l, hl, hq⟩ := list_of (n := n) (q := fun i (x : UInt8) => W.cell? ⟨b, off + i, none⟩ = some (u8 x)) (fun i hi => by
      obtain ⟨es, h1, h2, h3⟩ := hx i hi
      obtain ⟨z, rfl, hz⟩ := h3.int he
      have hw := bounds_u8 hz
      refine ⟨UInt8.ofNat z.toNat, ?_⟩
      have h4 := h2 0 (by omega)
      rw [hc] at h4
      have e2 : (UInt8.ofNat z.toNat).toNat = z.toNat := by
        rw [UInt8.toNat_ofNat']
        exact Nat.mod_eq_of_lt (by omega)
      rw [show off + i = off + i * 1 + 0 by omega, h4]
      show some (Value.int .u8 z) = some (Value.int .u8 _)
      rw [e2, Int.toNat_of_nonneg hw.1])
    refine ⟨l, hl, fun _ => ⟨b, off, rfl, hb, fun j hj => ?_⟩⟩
    rw [hq j hj, List.getD_eq_getElem?_getD, List.getElem?_eq_getElem hj]
    rfl
theorem SliceOf.ints {e : TypeId} {A : Option Addr} {n c : Nat} (h : SliceOf enc P W e A n c) (he : P.underlying e = some (.int .i64)) (hc : P.cellsOf e = 1) : ∃ ks, IS W A n ks ∧ ∀ k ∈ ks, -9223372036854775808 ≤ k ∧ k ≤ 9223372036854775807 := by
  rcases Nat.eq_zero_or_pos n with rfl | hn
  · exact ⟨[], IS.empty _ _, fun k hk => by cases hk⟩
  · obtain ⟨b, off, rfl, hb, hx⟩ := h.2.2 hn
    obtain ⟨l, hl, hq⟩ := list_of (n := n) (q := fun i (x : Int) => W.cell? ⟨b, off + i, none⟩ = some (.int .i64 x) ∧ -9223372036854775808 ≤ x ∧ x ≤ 9223372036854775807) (fun i hi => by
      obtain ⟨es, h1, h2, h3⟩ := hx i hi
      obtain ⟨z, rfl, hz⟩ := h3.int he
      refine ⟨z, ?_, bounds_i64 hz⟩
      have h4 := h2 0 (by omega)
      rw [hc] at h4
      rw [show off + i = off + i * 1 + 0 by omega, h4]
      rfl)
    refine ⟨l, ⟨hl, fun _ => ⟨b, off, rfl, hb, fun j hj => ?_⟩⟩, fun k hk => ?_⟩
    · rw [(hq j hj).1, List.getD_eq_getElem?_getD, List.getElem?_eq_getElem hj]
      rfl
    · obtain ⟨j, hj, rfl⟩ := List.getElem_of_mem hk
      exact (hq j hj).2
end
end Go.Proofs.Ytlijfnekopjogaa.Lift
