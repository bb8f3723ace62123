/- Append of however many bytes, at a step of a region that draws. -/
import Derived.Test.YtlpdjpkdgagjpaaDoorSteps
namespace Go.Proofs.YtlpdjpkdgagjpaaDoor.Mem
open Go Go.RowKit
section
variable {P : Program} {w : World}
/-- the same, of however many bytes -/
theorem step_app_bytes0 {ops : Array Oper} {o : Oper} {a : Act} {K : Act → World → Prop} {Q : Exit → Act → World → Prop} {E : Prop} (hgd : o.guard = none) (s x : Operand) (t : TypeId)
    (ho : o.op = .call { callee := .builtin .append, args := #[s, x], argTypes := #[t, t] })
    (e : TypeId) (i : TypeInfo) (ht : P.underlying t = some (.slice e)) (hi : P.info? e = some i) (hz : i.zero = some (.int .u8 0)) (hsize : i.size = 1) (hby : i.bytes = 1)
    (h0 : Nat) (hs : a.eval s = .slice (some ⟨h0, 0, none⟩) 0 0) (hblk : w.heap[h0]? = some (.cells #[] e (0, 0)))
    (A : Option Addr) (m c : Nat) (bs : List UInt8) (hx : a.eval x = .slice A m c) (hr : BS w A m bs) (hm2 : m ≤ 1000000000)
    (h : ∀ A' c' w', w'.ownsRow h0 e 1 (.slice A' m c') m (u8s bs) → w.grownBy w' (some h0) → ((Value.slice A' m c').ownBlock = some h0 ∨ (Value.slice A' m c').ownBlock = some w.heap.size) → K (a.put o.dst (.slice A' m c')) w') :
    if Region.wanted o (yielded ops a.tmps) = true then Oper.wp P o a w K Q else E := by
  have hw : Region.wanted o (yielded ops a.tmps) = true := by simp [Region.wanted, hgd]
  rw [if_pos hw]
  have hown := own_empty hblk
  refine wp_append_bs w s x t ho h0 e i ht hi hz hsize hby _ 0 [] hs hown A m c bs hx hr (by omega) (Nat.le_of_lt (lt_of_block hblk)) ?_
  intro v' w' h1 h2 h3
  rw [Nat.zero_add] at h1
  rw [List.nil_append] at h1
  obtain ⟨A', c', rfl⟩ := own_slice h1
  exact h A' c' w' h1 h2 h3
/-- the same, onto any row of the call's own -/
theorem step_app_bs {ops : Array Oper} {o : Oper} {a : Act} {K : Act → World → Prop} {Q : Exit → Act → World → Prop} {E : Prop} (hgd : o.guard = none) (s x : Operand) (t : TypeId)
    (ho : o.op = .call { callee := .builtin .append, args := #[s, x], argTypes := #[t, t] })
    (base : Nat) (e : TypeId) (i : TypeInfo) (ht : P.underlying t = some (.slice e)) (hi : P.info? e = some i) (hz : i.zero = some (.int .u8 0)) (hsize : i.size = 1) (hby : i.bytes = 1)
    (v : Value) (n : Nat) (xs : List Value) (hs : a.eval s = v) (hown : w.ownsRow base e 1 v n xs)
    (A : Option Addr) (m c : Nat) (bs : List UInt8) (hx : a.eval x = .slice A m c) (hr : BS w A m bs) (hbytes : n + m ≤ 140737488355328) (hbase : base ≤ w.heap.size)
    (h : ∀ A' c' w', w'.ownsRow base e 1 (.slice A' (n + m) c') (n + m) (xs ++ u8s bs) → w.grownBy w' v.ownBlock → ((Value.slice A' (n + m) c').ownBlock = v.ownBlock ∨ (Value.slice A' (n + m) c').ownBlock = some w.heap.size) → K (a.put o.dst (.slice A' (n + m) c')) w') :
    if Region.wanted o (yielded ops a.tmps) = true then Oper.wp P o a w K Q else E := by
  have hw : Region.wanted o (yielded ops a.tmps) = true := by simp [Region.wanted, hgd]
  rw [if_pos hw]
  refine wp_append_bs w s x t ho base e i ht hi hz hsize hby v n xs hs hown A m c bs hx hr hbytes hbase ?_
  intro v' w' h1 h2 h3
  obtain ⟨A', c', rfl⟩ := own_slice h1
  exact h A' c' w' h1 h2 h3
end
end Go.Proofs.YtlpdjpkdgagjpaaDoor.Mem
