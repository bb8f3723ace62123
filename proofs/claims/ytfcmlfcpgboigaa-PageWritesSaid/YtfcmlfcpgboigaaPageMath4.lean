/- A page's payload is short; what PageWrites asks, as plain data. -/
import Derived.Test.YtfcmlfcpgboigaaPageMath3
namespace Go.Proofs.Ytfcmlfcpgboigaa
open Go.RowKit Mem
set_option maxRecDepth 100000
set_option linter.unusedVariables false
set_option linter.unusedSimpArgs false

namespace Num
theorem hiB_small (f : Nat) : ∀ n k, n < 128 ^ k → (hiB f n).length ≤ k := by
  induction f with
  | zero => intro n k h; simp [hiB]
  | succ f ih =>
    intro n k h
    unfold hiB
    split
    · simp
    · rename_i hn
      cases k with
      | zero => simp at h; omega
      | succ k =>
        have h2 : n / 128 < 128 ^ k := by
          rw [Nat.pow_succ] at h
          omega
        have := ih (n / 128) k h2
        simp only [List.length_append, List.length_cons, List.length_nil]
        omega
theorem shortB_small (n k : Nat) (h : n < 128 ^ (k + 1)) : (shortB n).length ≤ k + 1 := by
  rw [shortB_length]
  have h2 : n / 128 < 128 ^ k := by
    rw [Nat.pow_succ] at h
    omega
  have := hiB_small 10 (n / 128) k h2
  omega
end Num
namespace Pg
theorem textB_small (s : ByteArray) (h : s.size < 128) : (Sl.textB s.data.toList).length ≤ 1 + s.size := by
  have hl : s.data.toList.length = s.size := Array.length_toList
  rw [Sl.textB_length, hl, Sl.numB_nat']
  have := Num.shortB_small s.size 0 (by omega)
  omega
theorem cellB_small {c : C} (h : fits c = true) : (cellB c).length ≤ 51 := by
  obtain ⟨h1, h2⟩ := fits_sizes h
  have h3 := textB_small c.key (by omega)
  have h4 := textB_small c.data (by omega)
  unfold cellB
  split <;> simp only [List.length_append, List.length_cons, List.length_nil] <;> omega
theorem flat_small : ∀ l : List C, (∀ c ∈ l, fits c = true) → (l.flatMap cellB).length ≤ 51 * l.length
  | [], _ => by simp
  | x :: l, h => by
    have h1 := cellB_small (h x (by simp))
    have h2 := flat_small l (fun c hc => h c (List.mem_cons_of_mem _ hc))
    rw [List.flatMap_cons, List.length_append, List.length_cons]
    omega
theorem body_small {lsn : Int} {l : List C} (h : may lsn l = true) : (body lsn l).length ≤ 211 := by
  obtain ⟨h1, h2, h3, h4⟩ := may_parts h
  have h5 := flat_small l (rise_fits l _ h1)
  obtain ⟨n, rfl⟩ := Int.eq_ofNat_of_zero_le h2
  have h6 := Num.shortB_small n 5 (by omega)
  have h7 := Num.shortB_small l.length 0 (by omega)
  unfold body
  rw [List.length_append, List.length_append, Sl.numB_nat', Sl.numB_nat']
  omega
theorem enc_cases (lsn : Int) (l : List C) : may lsn l = false ∧ enc lsn l = ([], 1) ∨ may lsn l = true ∧ enc lsn l = (body lsn l, 0) ∧ (body lsn l).length ≤ 211 ∧ dec (body lsn l) = (lsn, l, 0) := by
  cases h : may lsn l with
  | false => exact .inl ⟨rfl, by unfold enc; rw [h]; rfl⟩
  | true =>
    have hd := dec_body h []
    rw [List.append_nil] at hd
    exact .inr ⟨rfl, by unfold enc; rw [h]; rfl, body_small h, hd⟩
theorem may_ok {lsn : Int} {l : List C} (h : may lsn l = true) (w : World) : ∀ x ∈ l, cellK.ok w x := by
  intro x hx
  obtain ⟨h1, _⟩ := may_parts h
  have := fits_sizes (rise_fits l _ h1 x hx)
  show x.key.size ≤ _ ∧ x.data.size ≤ _
  omega
theorem dec_cases (b : List UInt8) : ((dec b).2.2 ≠ 0 ∧ (dec b).1 = 0 ∧ (dec b).2.1 = []) ∨ ((dec b).2.2 = 0 ∧ may (dec b).1 (dec b).2.1 = true ∧ enc (dec b).1 (dec b).2.1 = (body (dec b).1 (dec b).2.1, 0) ∧ (body (dec b).1 (dec b).2.1).length ≤ b.length ∧ b.take (body (dec b).1 (dec b).2.1).length = body (dec b).1 (dec b).2.1) := by
  by_cases h : (dec b).2.2 = 0
  · obtain ⟨h1, rest, h2⟩ := dec_ok h
    refine .inr ⟨h, h1, by unfold enc; rw [h1]; rfl, ?_, ?_⟩
    · have h3 : ∀ (B b : List UInt8), b = B ++ rest → B.length ≤ b.length := by rintro B _ rfl; simp
      exact h3 _ _ h2
    · have h3 : ∀ (B b : List UInt8), b = B ++ rest → b.take B.length = B := by rintro B _ rfl; simp
      exact h3 _ _ h2
  · have := dec_not h
    exact .inl ⟨h, by rw [this], by rw [this]⟩
end Pg
end Go.Proofs.Ytfcmlfcpgboigaa
