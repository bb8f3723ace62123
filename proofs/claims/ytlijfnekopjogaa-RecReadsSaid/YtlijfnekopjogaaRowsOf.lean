/- A slice of structs, of whatever struct: how it reads, and how it is opened. -/
import Derived.Test.YtlijfnekopjogaaOpen
namespace Go.Proofs.Ytlijfnekopjogaa
open Go.ChangeShapes Go.WideShapes Go.ChangeAt Go.RowKit Mem Lift

/-- a kind of struct: its cells, how many, what holds of it in memory -/
structure Kind_ (α : Type) where
  zero : α
  k : Nat
  cells : α → List Value
  ok : World → α → Prop
  keep : ∀ {w w' : World} {x : α}, ok w x → Below w.heap.size w w' → ok w' x
/-- THE SLICE READS AS THE STRUCTS l. -/
structure ST {α : Type} (K : Kind_ α) (w : World) (A : Option Addr) (n : Nat) (l : List α) : Prop where
  len : l.length = n
  ok : ∀ x ∈ l, K.ok w x
  mem : 0 < n → ∃ b off, A = some ⟨b, off, none⟩ ∧ b < w.heap.size ∧ ∀ i, i < l.length → ∀ j, j < K.k → w.cell? ⟨b, off + i * K.k + j, none⟩ = (K.cells (l.getD i K.zero))[j]?
section
variable {α : Type} {K : Kind_ α} {w w' : World} {A : Option Addr} {n : Nat} {l : List α}
theorem ST.below (h : ST K w A n l) (hb : Below w.heap.size w w') : ST K w' A n l := by
  refine ⟨h.len, fun x hx => K.keep (h.ok x hx) hb, fun hn => ?_⟩
  obtain ⟨b, off, rfl, hlt, hc⟩ := h.mem hn
  exact ⟨b, off, rfl, Nat.lt_of_lt_of_le hlt hb.size, fun i hi j hj => (World.cell?_of_block (hb.block b hlt)).trans (hc i hi j hj)⟩
theorem ST.empty (K : Kind_ α) (w : World) (A : Option Addr) : ST K w A 0 [] := ⟨rfl, fun x hx => (by cases hx), fun h => absurd h (by omega)⟩
theorem ST.mem_ (h : ST K w A n l) {i : Nat} (hi : i < n) : l.getD i K.zero ∈ l := by
  have hl : i < l.length := by rw [h.len]; exact hi
  rw [List.getD_eq_getElem?_getD, List.getElem?_eq_getElem hl]; simp
theorem ST.at_ (h : ST K w A n l) {i : Nat} (hi : i < n) : ∃ b off, A = some ⟨b, off, none⟩ ∧ b < w.heap.size ∧ (∀ j, j < K.k → w.cell? ⟨b, off + i * K.k + j, none⟩ = (K.cells (l.getD i K.zero))[j]?) ∧ K.ok w (l.getD i K.zero) := by
  obtain ⟨b, off, rfl, hlt, hc⟩ := h.mem (by omega)
  have hl : i < l.length := by rw [h.len]; exact hi
  exact ⟨b, off, rfl, hlt, hc i hl, h.ok _ (h.mem_ hi)⟩
variable {H : Type} {enc : TypeId × Value → H} {W : World} {P : Program}
theorem structs_of {e : TypeId} {c : Nat} (h : SliceOf enc P W e A n c) (hc : P.cellsOf e = K.k) (hx : ∀ cs, Rd enc P W e cs → ∃ x, cs = K.cells x ∧ K.ok W x) : ∃ l, ST K W A n l := by
  obtain ⟨hn, hm, hy⟩ := h
  rcases Nat.eq_zero_or_pos n with rfl | hp
  · exact ⟨[], ST.empty K W A⟩
  · obtain ⟨b, off, rfl, hb, hy⟩ := hy hp
    obtain ⟨l, hl, hq⟩ := list_of (n := n) (q := fun i (x : α) => (∀ j, j < K.k → W.cell? ⟨b, off + i * K.k + j, none⟩ = (K.cells x)[j]?) ∧ K.ok W x) (fun i hi => by
      obtain ⟨es, h1, h2, h3⟩ := hy i hi
      obtain ⟨x, rfl, hok⟩ := hx _ h3
      rw [hc] at h2
      exact ⟨x, h2, hok⟩)
    refine ⟨l, hl, fun x hx => ?_, fun _ => ⟨b, off, rfl, hb, fun i hi j hj => ?_⟩⟩
    · obtain ⟨i, hi, rfl⟩ := List.getElem_of_mem hx
      exact (hq i hi).2
    · rw [List.getD_eq_getElem?_getD, List.getElem?_eq_getElem hi]
      exact (hq i hi).1 j hj
/-- an argument that is a slice of structs -/
theorem open_structs {t e : TypeId} {v : Value} {d : DataW H} {p : List MemPlace} {base : Nat} (ht : P.underlying t = some (.slice e)) (hc : P.cellsOf e = K.k) (hk : 0 < K.k) (hx : ∀ cs, Rd enc P W e cs → ∃ x, cs = K.cells x ∧ K.ok W x)
    (hv : Value.okWide P W .any base t v) (h : DataW.Trod enc P W 0 (fun _ => true) true t v d p) : ∃ A n c l, v = .slice A n c ∧ ST K W A n l ∧ n ≤ c ∧ c ≤ maxLen := by
  obtain ⟨A, n, c, rfl⟩ := okWide_slice ht hv
  obtain ⟨A', n', c', e', hs⟩ := (rd_of h).slice ht (by rw [hc]; exact hk)
  simp [Value.cells] at e'
  obtain ⟨rfl, rfl, rfl⟩ := e'
  obtain ⟨l, hl⟩ := structs_of hs hc hx
  exact ⟨A, n, c, l, rfl, hl, hs.1, hs.2.1⟩
/-- an argument that is a slice of ints -/
theorem open_intsA {t e : TypeId} {v : Value} {d : DataW H} {p : List MemPlace} {base : Nat} (ht : P.underlying t = some (.slice e)) (he : P.underlying e = some (.int .i64)) (hc : P.cellsOf e = 1)
    (hv : Value.okWide P W .any base t v) (h : DataW.Trod enc P W 0 (fun _ => true) true t v d p) : ∃ A n c ks, v = .slice A n c ∧ (IS W A n ks ∧ ∀ k ∈ ks, -9223372036854775808 ≤ k ∧ k ≤ 9223372036854775807) ∧ n ≤ c ∧ c ≤ maxLen := by
  obtain ⟨A, n, c, rfl⟩ := okWide_slice ht hv
  obtain ⟨A', n', c', e', hs⟩ := (rd_of h).slice ht (by omega)
  simp [Value.cells] at e'
  obtain ⟨rfl, rfl, rfl⟩ := e'
  obtain ⟨ks, hk⟩ := hs.ints he hc
  exact ⟨A, n, c, ks, rfl, hk, hs.1, hs.2.1⟩
end
end Go.Proofs.Ytlijfnekopjogaa
