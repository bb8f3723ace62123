/- Bytes that are gathered by 'append(out, b...)'. -/
import Derived.Test.YtlijfnekopjogaaSealRefW
namespace Go.Proofs.Ytlijfnekopjogaa
open Go.RowKit Mem
set_option linter.unusedVariables false
set_option linter.unusedSimpArgs false

/-- WHAT IS GATHERED, in memory of the call's own. -/
structure Out (w0 : World) (A : Option Addr) (n d : Nat) (bs : List UInt8) (w : World) : Prop where
  own : w.ownsRow w0.heap.size 5 1 (.slice A n d) n (u8s bs)
  below : Below w0.heap.size w0 w
section
variable {w0 w w' : World} {A : Option Addr} {n d : Nat} {bs : List UInt8}
theorem Out.grow (h : Out w0 A n d bs w) (hb : Below w.heap.size w w') : Out w0 A n d bs w' := ⟨own_below h.own hb, h.below.trans (hb.mono h.below.size)⟩
theorem Out.len (h : Out w0 A n d bs w) : bs.length = n := own_len h.own
theorem Out.read (h : Out w0 A n d bs w) : BS w A n bs := BS.of_own h.own
theorem out_info : ∃ i0, Try.prog.info? 5 = some i0 ∧ i0.zero = some (.int .u8 0) ∧ i0.size = 1 ∧ i0.bytes = 1 := by
  obtain ⟨i0, h0, h1, h2, h3⟩ := info_parts ninfo8
  exact ⟨i0, h0, h1, h2, h3⟩
theorem wpList_out {ops : Array Oper} {rest : List Oper} {o : Oper} {a : Act} {Q : Exit → Act → World → Prop} (hgd : Region.wanted o (yielded ops a.tmps) = true) (s x : Operand)
    (ho : o.op = .call { callee := .builtin .append, args := #[s, x], argTypes := #[33, 33] })
    (h : Out w0 A n d bs w) (hs : a.eval s = .slice A n d) {B : Option Addr} {m f : Nat} {b2 : List UInt8} (hx : a.eval x = .slice B m f) (hb : BS w B m b2) (hnm : n + m ≤ 1000000000)
    (k : ∀ A' d' w', Out w0 A' (n + m) d' (bs ++ b2) w' → wpList Try.prog ops Q rest (a.put o.dst (.slice A' (n + m) d')) w') : wpList Try.prog ops Q (o :: rest) a w := by
  obtain ⟨i0, h0, h1, h2, h3⟩ := out_info
  refine wpList_append_bs w hgd s x 33 ho w0.heap.size 5 i0 Try.underlying33 h0 h1 h2 h3 (.slice A n d) n (u8s bs) hs h.own B m f b2 hx hb (by omega) h.below.size ?_
  intro v' w' hown hg _
  have hv : ∃ A' d', v' = .slice A' (n + m) d' := by
    rcases hown.2 with ⟨rfl, e⟩ | ⟨g, cap, cur, rfl, _⟩
    · exact ⟨none, 0, by rw [e]⟩
    · exact ⟨_, _, rfl⟩
  obtain ⟨A', d', rfl⟩ := hv
  refine k A' d' w' ⟨by rw [u8s_append]; exact hown, ?_⟩
  exact h.below.grown hg h.below.size (fun j hj => own_ge h.own hj)
end
/-- a call's own bytes, as what is gathered first -/
theorem Out.first {w0 w w' : World} {v : Value} {bs : List UInt8} (ho : w'.ownsRow w.heap.size 5 1 v bs.length (u8s bs)) (hb : Below w.heap.size w w') (h0 : Below w0.heap.size w0 w) : ∃ A d, v = .slice A bs.length d ∧ Out w0 A bs.length d bs w' := by
  have hv : ∃ A' d', v = .slice A' bs.length d' := by
    rcases ho.2 with ⟨rfl, e⟩ | ⟨g, cap, cur, rfl, _⟩
    · exact ⟨none, 0, by rw [e]⟩
    · exact ⟨_, _, rfl⟩
  obtain ⟨A, d, rfl⟩ := hv
  exact ⟨A, d, rfl, own_base ho h0.size, h0.trans (hb.mono h0.size)⟩
/-- a call's own bytes that are to be appended -/
theorem Out.next {w0 w w' : World} {A : Option Addr} {n d : Nat} {bs b2 : List UInt8} {v : Value} (h : Out w0 A n d bs w) (ho : w'.ownsRow w.heap.size 5 1 v b2.length (u8s b2)) (hb : Below w.heap.size w w') : ∃ B f, v = .slice B b2.length f ∧ Out w0 A n d bs w' ∧ BS w' B b2.length b2 := by
  have hv : ∃ A' d', v = .slice A' b2.length d' := by
    rcases ho.2 with ⟨rfl, e⟩ | ⟨g, cap, cur, rfl, _⟩
    · exact ⟨none, 0, by rw [e]⟩
    · exact ⟨_, _, rfl⟩
  obtain ⟨B, f, rfl⟩ := hv
  exact ⟨B, f, rfl, h.grow hb, BS.of_own ho⟩
end Go.Proofs.Ytlijfnekopjogaa
