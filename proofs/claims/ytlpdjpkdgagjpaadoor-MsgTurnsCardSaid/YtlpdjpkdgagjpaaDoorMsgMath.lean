/- Messages there and back, as plain data. -/
import Derived.Test.YtlpdjpkdgagjpaaDoorMsgEnc
namespace Go.Proofs.YtlpdjpkdgagjpaaDoor
open Go.RowKit Mem
set_option maxRecDepth 100000
set_option linter.unusedVariables false
set_option linter.unusedSimpArgs false

namespace Mg
def one (r : Sl.R) (most : Int) : Int := ((Sl.out r 0 (Sl.number r.b most).1 : Nat) : Int)
def next (r : Sl.R) (most : Int) : Sl.R := Sl.try_ r (Sl.number r.b most).2
/-- numbers, one behind the other -/
def reads (r : Sl.R) : Nat → List Int × Sl.R
  | 0 => ([], r)
  | k + 1 => ((reads r k).1 ++ [one (reads r k).2 1099511627776], next (reads r k).2 1099511627776)
def zero : M := ⟨0, 0, 0, 0, []⟩
def mOf (l mem : List Int) : M := ⟨l.getD 0 0, l.getD 1 0, l.getD 2 0, l.getD 3 0, mem⟩
def tailOf (t : List Int × Sl.R) : List Int × Sl.R := if t.1.getD 0 0 = 1 then reads (next t.2 8) (one t.2 8).toNat else ([], t.2)
def parse (s : List UInt8) : M × Sl.R := (mOf (reads ⟨s, 0⟩ 4).1 (tailOf (reads ⟨s, 0⟩ 4)).1, (tailOf (reads ⟨s, 0⟩ 4)).2)
def fin (r : Sl.R) : Nat := (Sl.try_ r (Sl.endF r.b)).e
def decS (s : List UInt8) : M × Nat := if fin (parse s).2 ≠ 0 then (zero, fin (parse s).2) else if may (parse s).1 = true then ((parse s).1, 0) else (zero, 11)
def dec (b : List UInt8) : M × Nat := if (Sl.openB b).2.2 ≠ 0 then (zero, (Sl.openB b).2.2) else if (Sl.openB b).2.1 ≠ b.length then (zero, 13) else decS (Sl.openB b).1
theorem reads_length (r : Sl.R) (k : Nat) : (reads r k).1.length = k := by
  induction k with
  | zero => rfl
  | succ k ih => simp [reads, ih]
theorem next_le (r : Sl.R) (most : Int) : (next r most).b.length ≤ r.b.length := by
  unfold next Sl.try_
  split
  · exact Nat.le_refl _
  · split
    · exact Nat.le_refl _
    · simp
theorem reads_le (r : Sl.R) (k : Nat) : (reads r k).2.b.length ≤ r.b.length := by
  induction k with
  | zero => exact Nat.le_refl _
  | succ k ih => exact Nat.le_trans (next_le _ _) ih
theorem one_bound (r : Sl.R) (most : Int) (h0 : 0 ≤ most) (h1 : most ≤ 1099511627776) : 0 ≤ one r most ∧ one r most ≤ most := by
  unfold one Sl.out
  split
  · simp; omega
  · refine ⟨by omega, ?_⟩
    unfold Sl.number
    split
    · simp only; omega
    · split
      · simp only; omega
      · rename_i h1 h2
        omega
theorem reads_bound (r : Sl.R) (k : Nat) : ∀ x ∈ (reads r k).1, 0 ≤ x ∧ x ≤ 1099511627776 := by
  induction k with
  | zero => intro x hx; cases hx
  | succ k ih =>
    intro x hx
    rcases List.mem_append.1 hx with h | h
    · exact ih x h
    · rw [List.mem_singleton] at h
      subst h
      exact one_bound _ _ (by omega) (by omega)
theorem one_num (x most : Int) (h0 : 0 ≤ x) (h1 : x ≤ most) (h2 : most ≤ 1099511627776) (rest : List UInt8) : one ⟨Sl.numB x ++ rest, 0⟩ most = x ∧ next ⟨Sl.numB x ++ rest, 0⟩ most = ⟨rest, 0⟩ := by
  obtain ⟨n, rfl⟩ := Int.eq_ofNat_of_zero_le h0
  have hn : Sl.number (Sl.numB (n : Int) ++ rest) most = (n, (Sl.numB (n : Int)).length, 0) := by
    rw [Sl.numB_nat']
    exact Sl.number_num n most rest h1 (by omega)
  unfold one next Sl.out Sl.try_
  simp only [hn]
  simp
theorem reads_front (r : Sl.R) (k : Nat) : reads r (k + 1) = (one r 1099511627776 :: (reads (next r 1099511627776) k).1, (reads (next r 1099511627776) k).2) := by
  induction k with
  | zero => rfl
  | succ k ih =>
    show ((reads r (k + 1)).1 ++ [one (reads r (k + 1)).2 _], next (reads r (k + 1)).2 _) = _
    rw [ih]
    rfl
/-- what was written is read -/
theorem reads_num : ∀ (l : List Int) (rest : List UInt8), (∀ x ∈ l, 0 ≤ x ∧ x ≤ 1099511627776) → reads ⟨l.flatMap Sl.numB ++ rest, 0⟩ l.length = (l, ⟨rest, 0⟩)
  | [], rest, h => rfl
  | x :: l, rest, h => by
    have hx := h x List.mem_cons_self
    have e : (x :: l).flatMap Sl.numB ++ rest = Sl.numB x ++ (l.flatMap Sl.numB ++ rest) := by simp
    obtain ⟨h2, h3⟩ := one_num x 1099511627776 hx.1 hx.2 (by omega) (l.flatMap Sl.numB ++ rest)
    rw [e, List.length_cons, reads_front, h2, h3, reads_num l rest (fun y hy => h y (List.mem_cons_of_mem _ hy))]
/-- what is read was written so -/
theorem next_back (r : Sl.R) (most : Int) (h : (next r most).e = 0) : r.e = 0 ∧ Sl.numB (one r most) ++ (next r most).b = r.b := by
  unfold next Sl.try_ at h
  by_cases he : r.e ≠ 0
  · rw [if_pos he] at h; exact absurd h he
  · rw [if_neg he] at h
    have he0 : r.e = 0 := by omega
    by_cases hx : (Sl.number r.b most).2.2 ≠ 0
    · rw [if_pos hx] at h; exact absurd h hx
    · obtain ⟨b1, b2, b3, b4⟩ := Sl.number_back r.b most (Sl.number r.b most).1 (Sl.number r.b most).2.1 (by
        have : (Sl.number r.b most).2.2 = 0 := by omega
        rw [← this])
      refine ⟨he0, ?_⟩
      unfold one next Sl.try_ Sl.out
      rw [if_neg he, if_neg he, if_neg hx, Sl.numB_nat', b3]
      simp
theorem reads_err (r : Sl.R) (k : Nat) (h : (reads r k).2.e = 0) : r.e = 0 := by
  induction k with
  | zero => exact h
  | succ k ih => exact ih (next_back _ _ h).1
theorem reads_back (r : Sl.R) (k : Nat) (h : (reads r k).2.e = 0) : (reads r k).1.flatMap Sl.numB ++ (reads r k).2.b = r.b := by
  induction k with
  | zero => rfl
  | succ k ih =>
    obtain ⟨h1, h2⟩ := next_back _ _ h
    show ((reads r k).1 ++ [one (reads r k).2 _]).flatMap Sl.numB ++ (next (reads r k).2 _).b = r.b
    rw [List.flatMap_append]
    simp only [List.flatMap_cons, List.flatMap_nil, List.append_nil]
    rw [List.append_assoc, h2, ih h1]
theorem fin_zero {r : Sl.R} (h : fin r = 0) : r.e = 0 ∧ r.b = [] := by
  unfold fin Sl.try_ at h
  by_cases he : r.e ≠ 0
  · rw [if_pos he] at h; exact absurd h he
  · rw [if_neg he] at h
    unfold Sl.endF at h
    by_cases hb : 0 < r.b.length
    · rw [if_pos hb] at h
      simp at h
    · exact ⟨by omega, List.eq_nil_of_length_eq_zero (by omega)⟩
theorem four {l : List Int} (h : l.length = 4) : ∃ a b c d, l = [a, b, c, d] := by
  match l, h with
  | [a, b, c, d], _ => exact ⟨a, b, c, d, rfl⟩
theorem may_vals {m : M} (h : may m = true) : (∀ x ∈ m.vals, 0 ≤ x ∧ x ≤ 1099511627776) ∧ (∀ x ∈ m.mem, 0 ≤ x ∧ x ≤ 1099511627776) ∧ m.mem.length ≤ 8 ∧ (m.kind ≠ 1 → m.mem = []) := by
  unfold may at h
  simp only [Bool.and_eq_true, Bool.not_eq_true', decide_eq_true_eq] at h
  obtain ⟨⟨⟨⟨⟨h1, h2⟩, h3⟩, h4⟩, h5⟩, h6, h7⟩ := h
  have n1 := node_bounds h2
  have n2 := node_bounds h3
  have hs : 1 ≤ m.tx ∧ m.tx ≤ 1099511627776 := by unfold Rc.seq at h6; simpa using h6
  rw [Rc.members_up] at h7
  refine ⟨fun x hx => ?_, fun x hx => ?_, Rc.up_len h7, fun hk => ?_⟩
  · simp only [M.vals, List.mem_cons, List.not_mem_nil, or_false] at hx
    rcases hx with rfl | rfl | rfl | rfl <;> omega
  · obtain ⟨k, hk, rfl⟩ := List.getElem_of_mem hx
    unfold Rc.up at h7
    rw [List.all_eq_true] at h7
    have := h7 k (List.mem_range.2 hk)
    unfold Rc.okAt at this
    rw [Bool.and_eq_true] at this
    have := node_bounds this.1
    rw [List.getD_eq_getElem?_getD, List.getElem?_eq_getElem hk] at this
    simp at this
    omega
  · unfold spareB at h1
    rw [Bool.and_eq_false_iff] at h1
    rcases h1 with h1 | h1
    · have : m.kind = 1 := by simpa using h1
      exact absurd this hk
    · exact List.eq_nil_of_length_eq_zero (by simp only [decide_eq_false_iff_not] at h1; omega)
theorem may_nums {m : M} (h : may m = true) : Nums m := ⟨fun x hx => by have := (may_vals h).1 x hx; omega, fun x hx => by have := (may_vals h).2.1 x hx; omega⟩
theorem mOf_vals (m : M) : mOf m.vals m.mem = m := rfl
theorem parse_body (m : M) (h : may m = true) : parse (body m) = (m, ⟨[], 0⟩) := by
  obtain ⟨h1, h2, h3, h4⟩ := may_vals h
  unfold body
  by_cases hk : m.kind = 1
  · rw [if_pos hk]
    have r1 := reads_num m.vals (Sl.numB (m.mem.length : Int) ++ m.mem.flatMap Sl.numB) h1
    have hl : m.vals.length = 4 := rfl
    rw [hl] at r1
    have ht : tailOf (m.vals, ⟨Sl.numB (m.mem.length : Int) ++ m.mem.flatMap Sl.numB, 0⟩) = (m.mem, ⟨[], 0⟩) := by
      unfold tailOf
      rw [if_pos (show m.vals.getD 0 0 = 1 from hk)]
      obtain ⟨o1, o2⟩ := one_num (m.mem.length : Int) 8 (by omega) (by omega) (by omega) (m.mem.flatMap Sl.numB)
      simp only
      rw [o1, o2, Int.toNat_natCast]
      have := reads_num m.mem [] h2
      rw [List.append_nil] at this
      exact this
    unfold parse
    rw [r1, ht]
    rfl
  · rw [if_neg hk, List.append_nil]
    have r1 := reads_num m.vals [] h1
    have hl : m.vals.length = 4 := rfl
    rw [hl, List.append_nil] at r1
    have ht : tailOf (m.vals, ⟨[], 0⟩) = ([], ⟨[], 0⟩) := by
      unfold tailOf
      rw [if_neg (show ¬ m.vals.getD 0 0 = 1 from hk)]
    unfold parse
    rw [r1, ht]
    have := h4 hk
    cases m
    simp only at this
    subst this
    rfl
theorem decS_body (m : M) (h : may m = true) : decS (body m) = (m, 0) := by
  unfold decS
  rw [parse_body m h]
  have hf : fin ⟨[], 0⟩ = 0 := rfl
  rw [hf, if_neg (by simp), if_pos h]
theorem body_small (m : M) (h : may m = true) : (body m).length ≤ 143 := by
  have := body_le m
  have := (may_vals h).2.2.1
  omega
theorem enc_ok (m : M) (h : may m = true) : enc m = (Sl.sealB (body m), 0) := by
  have := body_small m h
  unfold enc Sl.sealE
  rw [if_pos h, if_neg (by omega)]
theorem enc_not (m : M) (h : ¬ may m = true) : enc m = ([], 1) := by unfold enc; rw [if_neg h]
theorem dec_enc (m : M) (h : may m = true) : dec (enc m).1 = (m, 0) := by
  have hb := body_small m h
  rw [enc_ok m h]
  have ho := Sl.open_seal (body m) [] (by omega)
  rw [List.append_nil] at ho
  unfold dec
  rw [ho, if_neg (by simp), if_neg (by simp)]
  exact decS_body m h
theorem parse_back (s : List UInt8) (h : fin (parse s).2 = 0) : body (parse s).1 = s := by
  obtain ⟨h1, h2⟩ := fin_zero h
  unfold parse at h1 h2 ⊢
  simp only at h1 h2 ⊢
  have hlen := reads_length ⟨s, 0⟩ 4
  generalize ht : reads ⟨s, 0⟩ 4 = t at *
  obtain ⟨a, b, c, d, hl⟩ := four hlen
  unfold tailOf at h1 h2 ⊢
  unfold body M.vals mOf
  by_cases hk : t.1.getD 0 0 = 1
  · rw [if_pos hk] at h1 h2 ⊢
    simp only
    rw [if_pos hk]
    have e1 := reads_err _ _ h1
    obtain ⟨e2, e3⟩ := next_back _ _ e1
    have b1 := reads_back _ _ h1
    have b2 := reads_back ⟨s, 0⟩ 4 (by rw [ht]; exact e2)
    rw [ht] at b2
    rw [h2, List.append_nil] at b1
    have hb := one_bound t.2 8 (by omega) (by omega)
    rw [reads_length, Int.toNat_of_nonneg hb.1, b1, e3]
    rw [hl] at b2 ⊢
    exact b2
  · rw [if_neg hk] at h1 h2 ⊢
    simp only
    rw [if_neg hk, List.append_nil]
    have b2 := reads_back ⟨s, 0⟩ 4 (by rw [ht]; exact h1)
    rw [ht, h2, List.append_nil] at b2
    rw [hl] at b2 ⊢
    exact b2
theorem decS_ok {s : List UInt8} {m : M} (h : decS s = (m, 0)) : may m = true ∧ body m = s := by
  unfold decS at h
  by_cases hf : fin (parse s).2 ≠ 0
  · rw [if_pos hf] at h
    injection h with _ h
    exact absurd h hf
  · rw [if_neg hf] at h
    by_cases hm : may (parse s).1 = true
    · rw [if_pos hm] at h
      injection h with h _
      subst h
      exact ⟨hm, parse_back s (by omega)⟩
    · rw [if_neg hm] at h
      injection h with _ h
      cases h
theorem dec_ok {b : List UInt8} {m : M} (h : dec b = (m, 0)) : may m = true ∧ enc m = (b, 0) := by
  unfold dec at h
  by_cases ho : (Sl.openB b).2.2 ≠ 0
  · rw [if_pos ho] at h
    injection h with _ h
    exact absurd h ho
  · rw [if_neg ho] at h
    by_cases hn : (Sl.openB b).2.1 ≠ b.length
    · rw [if_pos hn] at h
      injection h with _ h
      cases h
    · rw [if_neg hn] at h
      obtain ⟨h1, h2⟩ := decS_ok h
      refine ⟨h1, ?_⟩
      rw [enc_ok m h1, h2]
      obtain ⟨_, _, h3⟩ := Sl.seal_of_open b (Sl.openB b).1 (Sl.openB b).2.1 (by
        have : (Sl.openB b).2.2 = 0 := by omega
        rw [← this])
      rw [h3, List.take_of_length_le (by omega)]
end Mg
end Go.Proofs.YtlpdjpkdgagjpaaDoor
