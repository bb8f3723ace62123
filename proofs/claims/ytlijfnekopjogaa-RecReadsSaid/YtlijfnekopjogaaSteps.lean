/- Append at a step of a region that draws: bytes onto an empty block of the call's own; one element onto a row. -/
import Derived.Test.YtlijfnekopjogaaMem
namespace Go.Proofs.Ytlijfnekopjogaa.Mem
open Go Go.RowKit
section
variable {P : Program} {w : World}
theorem held_keep {w' : World} {q i : Nat} {v : Value} (hk : w'.heap[q]? = w.heap[q]?) (h : w.cell? ⟨q, i, none⟩ = some v ∧ w.frozen? ⟨q, i, none⟩ = false) : w'.cell? ⟨q, i, none⟩ = some v ∧ w'.frozen? ⟨q, i, none⟩ = false :=
  ⟨(World.cell?_of_block hk).trans h.1, (World.frozen?_of_block hk).trans h.2⟩
theorem held_alloc {q i : Nat} {v : Value} (o : Obj) (h : w.cell? ⟨q, i, none⟩ = some v ∧ w.frozen? ⟨q, i, none⟩ = false) : (w.alloc o).cell? ⟨q, i, none⟩ = some v ∧ (w.alloc o).frozen? ⟨q, i, none⟩ = false :=
  held_keep (Below.heap_alloc w o q (World.block_lt_of_cell? w ⟨q, i, none⟩ h.1)) h
/-- what a cell holds, under a name -/
def curAt (w : World) (q i : Nat) (v : Value) : Value := (w.cell? ⟨q, i, none⟩).getD v
theorem curAt_eq {q i : Nat} {v u : Value} (h : w.cell? ⟨q, i, none⟩ = some u) : curAt w q i v = u := by unfold curAt; rw [h]; rfl
theorem held_cur {q i : Nat} {u v : Value} (h : w.cell? ⟨q, i, none⟩ = some u ∧ w.frozen? ⟨q, i, none⟩ = false) : w.cell? ⟨q, i, none⟩ = some (curAt w q i v) ∧ w.frozen? ⟨q, i, none⟩ = false := ⟨by rw [curAt_eq h.1]; exact h.1, h.2⟩
theorem held_set {q i : Nat} {u x : Value} (h : w.cell? ⟨q, i, none⟩ = some u ∧ w.frozen? ⟨q, i, none⟩ = false) : (w.setCell ⟨q, i, none⟩ x).cell? ⟨q, i, none⟩ = some x ∧ (w.setCell ⟨q, i, none⟩ x).frozen? ⟨q, i, none⟩ = false := by
  exact ⟨by simp [World.cell?_setCell_same, h.1], by simp [h.2]⟩
theorem own_empty {h0 : Nat} {e : TypeId} (hblk : w.heap[h0]? = some (.cells #[] e (0, 0))) : w.ownsRow h0 e 1 (.slice (some ⟨h0, 0, none⟩) 0 0) 0 [] :=
  ⟨rfl, .inr ⟨h0, 0, #[], rfl, Nat.le_refl _, hblk, Nat.le_refl _, by simp [maxLen], by simp, by simp⟩⟩
theorem lt_of_block {h0 : Nat} {o : Obj} (h : w.heap[h0]? = some o) : h0 < w.heap.size := by
  rcases Nat.lt_or_ge h0 w.heap.size with hl | hl
  · exact hl
  · rw [Array.getElem?_eq_none hl] at h; cases h
theorem step_app_bytes {ops : Array Oper} {o : Oper} {a : Act} {K : Act → World → Prop} {Q : Exit → Act → World → Prop} {E : Prop} (hgd : o.guard = none) (s x : Operand) (t : TypeId)
    (ho : o.op = .call { callee := .builtin .append, args := #[s, x], argTypes := #[t, t] })
    (e : TypeId) (i : TypeInfo) (ht : P.underlying t = some (.slice e)) (hi : P.info? e = some i) (hz : i.zero = some (.int .u8 0)) (hsize : i.size = 1) (hby : i.bytes = 1)
    (h0 : Nat) (hs : a.eval s = .slice (some ⟨h0, 0, none⟩) 0 0) (hblk : w.heap[h0]? = some (.cells #[] e (0, 0)))
    (A : Option Addr) (m c : Nat) (bs : List UInt8) (hx : a.eval x = .slice A m c) (hr : BS w A m bs) (hm : 0 < m) (hm2 : m ≤ 1000000000)
    (h : ∀ g cap w', w'.ownsRow h0 e 1 (.slice (some ⟨g, 0, none⟩) m cap) m (u8s bs) → w.grownBy w' (some h0) → (g = h0 ∨ g = w.heap.size) → K (a.put o.dst (.slice (some ⟨g, 0, none⟩) m cap)) w') :
    if Region.wanted o (yielded ops a.tmps) = true then Oper.wp P o a w K Q else E := by
  have hw : Region.wanted o (yielded ops a.tmps) = true := by simp [Region.wanted, hgd]
  rw [if_pos hw]
  have hown := own_empty hblk
  refine wp_append_bs w s x t ho h0 e i ht hi hz hsize hby _ 0 [] hs hown A m c bs hx hr (by omega) (Nat.le_of_lt (lt_of_block hblk)) ?_
  intro v' w' h1 h2 h3
  rw [Nat.zero_add] at h1
  rw [List.nil_append] at h1
  obtain ⟨g, cap, rfl, _, _⟩ := h1.form hm
  refine h g cap w' h1 h2 ?_
  rcases h3 with h3 | h3
  · exact .inl (by simpa [Value.ownBlock] using h3)
  · exact .inr (by simpa [Value.ownBlock] using h3)
/-- one element, laid in block b, onto a row -/
theorem step_app_one {ops : Array Oper} {o : Oper} {a : Act} {K : Act → World → Prop} {Q : Exit → Act → World → Prop} {E : Prop} (hgd : o.guard = none) (s x : Operand) (t : TypeId)
    (ho : o.op = .call { callee := .builtin .append, args := #[s, x], argTypes := #[t, t] })
    (base : Nat) (e : TypeId) (i : TypeInfo) (z : Value) (size bytes : Nat) (ht : P.underlying t = some (.slice e)) (hi : P.info? e = some i) (hz : i.zero = some z)
    (hsize : i.size = size) (hby : i.bytes = bytes) (hzs : z.cells.size = size) (hsz : 0 < size)
    (v : Value) (n : Nat) (xs : List Value) (hs : a.eval s = v) (hown : w.ownsRow base e size v n xs)
    (b : Nat) (news : List Value) (hx : a.eval x = .slice (some ⟨b, 0, none⟩) 1 1) (hl : news.length = size) (hblk : w.heap[b]? = some (.cells news.toArray e (0, 0))) (h1 : ∀ u ∈ news, u.oneCell' = true)
    (hn : n ≤ 1000000) (hbytes : bytes ≤ 1000) (hbase : base ≤ w.heap.size)
    (h : ∀ g cap w', w'.ownsRow base e size (.slice (some ⟨g, 0, none⟩) (n + 1) cap) (n + 1) (xs ++ news) → w.grownBy w' v.ownBlock → (v.ownBlock = some g ∨ g = w.heap.size) → K (a.put o.dst (.slice (some ⟨g, 0, none⟩) (n + 1) cap)) w') :
    if Region.wanted o (yielded ops a.tmps) = true then Oper.wp P o a w K Q else E := by
  refine step_append_lies w hgd s x t ho base e i z size bytes ht hi hz hsize hby hzs hsz v n xs hs hown ⟨b, 0, none⟩ 1 1 news hx (by omega) (fun j u hu => ?_) h1 (by omega) (by unfold maxLen; omega) ?_ hbase w.heap.size rfl (fun g cap w' h2 h3 h4 _ => h g cap w' h2 h3 h4)
  · have hadd : (⟨b, 0, none⟩ : Addr).add j = ⟨b, j, none⟩ := by unfold Addr.add; split <;> simp_all
    rw [hadd, cell_of_row w b j news.toArray e (0, 0) hblk, List.getElem?_toArray, hu]
  · have : (n + 1) * bytes ≤ 1000001 * 1000 := Nat.mul_le_mul (by omega) hbytes
    omega
end
end Go.Proofs.Ytlijfnekopjogaa.Mem
