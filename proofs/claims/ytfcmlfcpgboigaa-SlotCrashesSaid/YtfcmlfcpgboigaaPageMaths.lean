/- PageMaths: joined out of PageMath, PageMath2, PageMath3, PageMath4. -/
import Derived.Test.YtfcmlfcpgboigaaPageDec
import Derived.Test.YtfcmlfcpgboigaaSealMath2
/- Pages there and back, as plain data. -/
namespace Go.Proofs.Ytfcmlfcpgboigaa
open Go.RowKit Mem
set_option maxRecDepth 100000
set_option linter.unusedVariables false
set_option linter.unusedSimpArgs false

namespace Rm
theorem try_front (a rest : List UInt8) : Sl.try_ ⟨a ++ rest, 0⟩ (a.length, 0) = ⟨rest, 0⟩ := by
  unfold Sl.try_
  rw [if_neg (by simp), if_neg (by simp)]
  simp
theorem text_text (s rest : List UInt8) (most : Int) (hm : (s.length : Int) ≤ most) (hb : s.length < 18446744073709551616) : text ⟨Sl.textB s ++ rest, 0⟩ most = s ∧ textR ⟨Sl.textB s ++ rest, 0⟩ most = ⟨rest, 0⟩ := by
  unfold text textR
  rw [show (⟨Sl.textB s ++ rest, 0⟩ : Sl.R).b = Sl.textB s ++ rest from rfl, Sl.textF_text s rest most hm hb]
  refine ⟨?_, try_front _ _⟩
  unfold Sl.out
  rw [if_neg (by simp)]
theorem flag_flag (x : Bool) (rest : List UInt8) : flag ⟨[if x then 1 else 0] ++ rest, 0⟩ = x ∧ flagR ⟨[if x then 1 else 0] ++ rest, 0⟩ = ⟨rest, 0⟩ := by
  cases x <;> refine ⟨?_, ?_⟩ <;> simp [flag, flagR, Sl.flagF, Sl.out, Sl.try_]
theorem one_num (x most : Int) (h0 : 0 ≤ x) (h1 : x ≤ most) (h2 : most ≤ 1099511627776) (rest : List UInt8) : one ⟨Sl.numB x ++ rest, 0⟩ most = x ∧ next ⟨Sl.numB x ++ rest, 0⟩ most = ⟨rest, 0⟩ := by
  obtain ⟨n, rfl⟩ := Int.eq_ofNat_of_zero_le h0
  have hn : Sl.number (Sl.numB (n : Int) ++ rest) most = (n, (Sl.numB (n : Int)).length, 0) := by
    rw [Sl.numB_nat']
    exact Sl.number_num n most rest h1 (by omega)
  unfold one next Sl.out Sl.try_
  simp only [hn]
  simp
end Rm
namespace Pg
theorem cellR_cellB {c : C} (h : fits c = true) (rest : List UInt8) : cellR ⟨cellB c ++ rest, 0⟩ = (c, ⟨rest, 0⟩) := by
  obtain ⟨hk, hd⟩ := fits_sizes h
  have hkl : c.key.data.toList.length = c.key.size := Array.length_toList
  have hdl : c.data.data.toList.length = c.data.size := Array.length_toList
  obtain ⟨key, has, data⟩ := c
  simp only at hk hd hkl hdl
  cases has with
  | true =>
    rw [cellB_has rfl]
    simp only [List.append_assoc]
    obtain ⟨t1, t2⟩ := Rm.text_text key.data.toList ([1] ++ (Sl.textB data.data.toList ++ rest)) 16 (by omega) (by omega)
    obtain ⟨f1, f2⟩ := Rm.flag_flag true (Sl.textB data.data.toList ++ rest)
    obtain ⟨u1, u2⟩ := Rm.text_text data.data.toList rest 32 (by omega) (by omega)
    simp only [if_true] at f1 f2
    unfold cellR
    rw [t2, f1, if_pos rfl, t1, f2, u1, u2]
  | false =>
    have hz : data.size = 0 := by
      unfold fits valOk at h
      simp only [Bool.and_eq_true, Bool.false_or] at h
      have h2 := h.2.2
      rw [ByteArray.toList_eq] at h2
      have : data.data.toList = [] := by simpa using h2
      rw [this] at hdl
      simpa using hdl.symm
    have hde : data = ⟨#[]⟩ := by
      obtain ⟨d⟩ := data
      have : d.size = 0 := hz
      rw [Array.size_eq_zero_iff] at this
      rw [this]
    subst hde
    rw [cellB_not rfl]
    simp only [List.append_assoc]
    obtain ⟨t1, t2⟩ := Rm.text_text key.data.toList ([0] ++ rest) 16 (by omega) (by omega)
    obtain ⟨f1, f2⟩ := Rm.flag_flag false rest
    simp only [Bool.false_eq_true, if_false] at f1 f2
    unfold cellR
    rw [t2, f1, if_neg (by simp), t1, f2]
theorem cellsR_flat (l : List C) (rest : List UInt8) (h : ∀ c ∈ l, fits c = true) : ∀ k, k ≤ l.length → cellsR ⟨l.flatMap cellB ++ rest, 0⟩ k = (l.take k, ⟨(l.drop k).flatMap cellB ++ rest, 0⟩)
  | 0, _ => by simp [cellsR]
  | k + 1, hk => by
    have ih := cellsR_flat l rest h k (by omega)
    have hlt : k < l.length := by omega
    unfold cellsR
    rw [ih]
    simp only
    rw [List.drop_eq_getElem_cons hlt, List.flatMap_cons, List.append_assoc, cellR_cellB (h _ (List.getElem_mem hlt)), List.take_succ_eq_append_getElem hlt]
/-- what is written is read -/
theorem dec_body {lsn : Int} {l : List C} (h : may lsn l = true) (rest : List UInt8) : dec (body lsn l ++ rest) = (lsn, l, 0) := by
  obtain ⟨h1, h2, h3, h4⟩ := may_parts h
  have hf := rise_fits l _ h1
  unfold dec decR numsR body
  simp only [List.append_assoc]
  obtain ⟨a1, a2⟩ := Rm.one_num lsn 1099511627776 h2 h3 (by omega) (Sl.numB (l.length : Int) ++ (l.flatMap cellB ++ rest))
  obtain ⟨b1, b2⟩ := Rm.one_num (l.length : Int) 4 (by omega) (by omega) (by omega) (l.flatMap cellB ++ rest)
  rw [a1, a2, b1, b2, Int.toNat_natCast, cellsR_flat l rest hf l.length (Nat.le_refl _), List.take_of_length_le (Nat.le_refl _)]
  simp [h]
end Pg
end Go.Proofs.Ytfcmlfcpgboigaa

/- What is decoded has just the bytes that were gone through. -/
namespace Go.Proofs.Ytfcmlfcpgboigaa
open Go.RowKit Mem
set_option maxRecDepth 100000
set_option linter.unusedVariables false
set_option linter.unusedSimpArgs false

namespace Rm
theorem try_back {r : Sl.R} {x : Nat × Nat} (h : (Sl.try_ r x).e = 0) : r.e = 0 ∧ x.2 = 0 ∧ Sl.try_ r x = ⟨r.b.drop x.1, 0⟩ := by
  unfold Sl.try_ at h ⊢
  by_cases h1 : r.e ≠ 0
  · rw [if_pos h1] at h; exact absurd h h1
  · rw [if_neg h1] at h ⊢
    by_cases h2 : x.2 ≠ 0
    · rw [if_pos h2] at h; exact absurd h h2
    · rw [if_neg h2]
      exact ⟨by omega, by omega, rfl⟩
theorem out_ok {α : Type} {r : Sl.R} (h : r.e = 0) (z a : α) : Sl.out r z a = a := by unfold Sl.out; rw [if_neg (by omega)]
theorem text_back {r : Sl.R} {most : Int} (h : (textR r most).e = 0) : r.e = 0 ∧ Sl.textB (text r most) ++ (textR r most).b = r.b := by
  unfold textR at h ⊢
  obtain ⟨h1, h2, h3⟩ := try_back h
  refine ⟨h1, ?_⟩
  rw [h3]
  unfold text
  rw [out_ok h1]
  obtain ⟨_, h4, _⟩ := Sl.textF_back r.b most (Sl.textF r.b most).1 (Sl.textF r.b most).2.1 (by rw [← h2])
  rw [h4, List.take_append_drop]
theorem flag_back {r : Sl.R} (h : (flagR r).e = 0) : r.e = 0 ∧ [if flag r then 1 else 0] ++ (flagR r).b = r.b := by
  unfold flagR at h ⊢
  obtain ⟨h1, h2, h3⟩ := try_back h
  refine ⟨h1, ?_⟩
  rw [h3]
  unfold flag
  rw [out_ok h1]
  obtain ⟨b, e⟩ := r
  simp only at h2 ⊢
  cases b with
  | nil => simp [Sl.flagF] at h2
  | cons a t =>
    have h4 : ¬ 1 < ((a :: t).getD 0 0).toNat := fun h4 => by
      unfold Sl.flagF at h2
      rw [if_neg (by simp), if_pos h4] at h2
      simp at h2
    have hF : Sl.flagF (a :: t) = (decide (a.toNat = 1), 1, 0) := by
      unfold Sl.flagF
      rw [if_neg (by simp), if_neg h4]
      rfl
    rw [hF]
    have h6 : ¬ 1 < a.toNat := h4
    have h5 : a.toNat = 0 ∨ a.toNat = 1 := by omega
    rcases h5 with h5 | h5
    · have : a = 0 := UInt8.toNat_inj.1 h5
      subst this
      rfl
    · have : a = 1 := UInt8.toNat_inj.1 h5
      subst this
      rfl
theorem next_back (r : Sl.R) (most : Int) (h : (next r most).e = 0) : r.e = 0 ∧ Sl.numB (one r most) ++ (next r most).b = r.b := by
  unfold next Sl.try_ at h
  by_cases he : r.e ≠ 0
  · rw [if_pos he] at h; exact absurd h he
  · rw [if_neg he] at h
    have he0 : r.e = 0 := by omega
    by_cases hx : (Sl.number r.b most).2.2 ≠ 0
    · rw [if_pos hx] at h; exact absurd h hx
    · obtain ⟨b1, b2, b3, b4⟩ := Sl.number_back r.b most (Sl.number r.b most).1 (Sl.number r.b most).2.1 (by
        have : (Sl.number r.b most).2.2 = 0 := by omega
        rw [← this])
      refine ⟨he0, ?_⟩
      unfold one next Sl.try_ Sl.out
      rw [if_neg he, if_neg he, if_neg hx, Sl.numB_nat', b3]
      simp
end Rm
namespace Pg
theorem cellR_back {r : Sl.R} (h : (cellR r).2.e = 0) : r.e = 0 ∧ cellB (cellR r).1 ++ (cellR r).2.b = r.b := by
  unfold cellR at h ⊢
  by_cases hf : Rm.flag (Rm.textR r 16) = true
  · rw [if_pos hf] at h ⊢
    obtain ⟨u1, u2⟩ := Rm.text_back h
    obtain ⟨f1, f2⟩ := Rm.flag_back u1
    obtain ⟨t1, t2⟩ := Rm.text_back f1
    refine ⟨t1, ?_⟩
    rw [cellB_has rfl, ← t2, ← f2, ← u2, hf]
    simp
  · have hf' : Rm.flag (Rm.textR r 16) = false := by simpa using hf
    rw [if_neg hf] at h ⊢
    obtain ⟨f1, f2⟩ := Rm.flag_back h
    obtain ⟨t1, t2⟩ := Rm.text_back f1
    refine ⟨t1, ?_⟩
    rw [cellB_not rfl, ← t2, ← f2, hf']
    simp
theorem cellsR_back (r : Sl.R) : ∀ k, (cellsR r k).2.e = 0 → r.e = 0 ∧ (cellsR r k).1.flatMap cellB ++ (cellsR r k).2.b = r.b
  | 0, h => ⟨h, rfl⟩
  | k + 1, h => by
    obtain ⟨h1, h2⟩ := cellR_back h
    obtain ⟨i1, i2⟩ := cellsR_back r k h1
    refine ⟨i1, ?_⟩
    show ((cellsR r k).1 ++ [(cellR (cellsR r k).2).1]).flatMap cellB ++ (cellR (cellsR r k).2).2.b = r.b
    rw [List.flatMap_append]
    simp only [List.flatMap_cons, List.flatMap_nil, List.append_nil]
    rw [List.append_assoc, h2, i2]
end Pg
end Go.Proofs.Ytfcmlfcpgboigaa

/- Whatever is decoded is a page that may be, and its bytes are a beginning of what was read. -/
namespace Go.Proofs.Ytfcmlfcpgboigaa
open Go.RowKit Mem
set_option maxRecDepth 100000
set_option linter.unusedVariables false
set_option linter.unusedSimpArgs false

namespace Pg
theorem dec_ok {b : List UInt8} (h : (dec b).2.2 = 0) : may (dec b).1 (dec b).2.1 = true ∧ ∃ rest, b = body (dec b).1 (dec b).2.1 ++ rest := by
  unfold dec decR at h ⊢
  by_cases he : (numsR ⟨b, 0⟩).2.e ≠ 0
  · rw [if_pos he] at h; exact absurd h he
  · rw [if_neg he] at h ⊢
    by_cases hm : may (Rm.one ⟨b, 0⟩ 1099511627776) (numsR ⟨b, 0⟩).1 = true
    · rw [if_pos hm]
      refine ⟨hm, (numsR ⟨b, 0⟩).2.b, ?_⟩
      have he0 : (numsR ⟨b, 0⟩).2.e = 0 := by omega
      have hlen : (numsR ⟨b, 0⟩).1.length = (Rm.one (Rm.next ⟨b, 0⟩ 1099511627776) 4).toNat := cellsR_length _ _
      unfold numsR at he0 hm hlen ⊢
      obtain ⟨c1, c2⟩ := cellsR_back _ _ he0
      obtain ⟨n1, n2⟩ := Rm.next_back _ _ c1
      obtain ⟨m1, m2⟩ := Rm.next_back _ _ n1
      have hp := Rm.one_bound (Rm.next ⟨b, 0⟩ 1099511627776) 4 (by omega) (by omega)
      unfold body
      simp only [List.append_assoc]
      rw [c2, hlen, Int.toNat_of_nonneg hp.1, n2, m2]
    · rw [if_neg hm] at h
      simp at h
theorem dec_not {b : List UInt8} (h : (dec b).2.2 ≠ 0) : dec b = (0, [], (dec b).2.2) := by
  unfold dec decR at h ⊢
  by_cases he : (numsR ⟨b, 0⟩).2.e ≠ 0
  · rw [if_pos he]
  · rw [if_neg he] at h ⊢
    by_cases hm : may (Rm.one ⟨b, 0⟩ 1099511627776) (numsR ⟨b, 0⟩).1 = true
    · rw [if_pos hm] at h; simp at h
    · rw [if_neg hm]
end Pg
end Go.Proofs.Ytfcmlfcpgboigaa

/- A page's payload is short; what PageWrites asks, as plain data. -/
namespace Go.Proofs.Ytfcmlfcpgboigaa
open Go.RowKit Mem
set_option maxRecDepth 100000
set_option linter.unusedVariables false
set_option linter.unusedSimpArgs false

namespace Num
theorem hiB_small (f : Nat) : ∀ n k, n < 128 ^ k → (hiB f n).length ≤ k := by
  induction f with
  | zero => intro n k h; simp [hiB]
  | succ f ih =>
    intro n k h
    unfold hiB
    split
    · simp
    · rename_i hn
      cases k with
      | zero => simp at h; omega
      | succ k =>
        have h2 : n / 128 < 128 ^ k := by
          rw [Nat.pow_succ] at h
          omega
        have := ih (n / 128) k h2
        simp only [List.length_append, List.length_cons, List.length_nil]
        omega
theorem shortB_small (n k : Nat) (h : n < 128 ^ (k + 1)) : (shortB n).length ≤ k + 1 := by
  rw [shortB_length]
  have h2 : n / 128 < 128 ^ k := by
    rw [Nat.pow_succ] at h
    omega
  have := hiB_small 10 (n / 128) k h2
  omega
end Num
namespace Pg
theorem textB_small (s : ByteArray) (h : s.size < 128) : (Sl.textB s.data.toList).length ≤ 1 + s.size := by
  have hl : s.data.toList.length = s.size := Array.length_toList
  rw [Sl.textB_length, hl, Sl.numB_nat']
  have := Num.shortB_small s.size 0 (by omega)
  omega
theorem cellB_small {c : C} (h : fits c = true) : (cellB c).length ≤ 51 := by
  obtain ⟨h1, h2⟩ := fits_sizes h
  have h3 := textB_small c.key (by omega)
  have h4 := textB_small c.data (by omega)
  unfold cellB
  split <;> simp only [List.length_append, List.length_cons, List.length_nil] <;> omega
theorem flat_small : ∀ l : List C, (∀ c ∈ l, fits c = true) → (l.flatMap cellB).length ≤ 51 * l.length
  | [], _ => by simp
  | x :: l, h => by
    have h1 := cellB_small (h x (by simp))
    have h2 := flat_small l (fun c hc => h c (List.mem_cons_of_mem _ hc))
    rw [List.flatMap_cons, List.length_append, List.length_cons]
    omega
theorem body_small {lsn : Int} {l : List C} (h : may lsn l = true) : (body lsn l).length ≤ 211 := by
  obtain ⟨h1, h2, h3, h4⟩ := may_parts h
  have h5 := flat_small l (rise_fits l _ h1)
  obtain ⟨n, rfl⟩ := Int.eq_ofNat_of_zero_le h2
  have h6 := Num.shortB_small n 5 (by omega)
  have h7 := Num.shortB_small l.length 0 (by omega)
  unfold body
  rw [List.length_append, List.length_append, Sl.numB_nat', Sl.numB_nat']
  omega
theorem enc_cases (lsn : Int) (l : List C) : may lsn l = false ∧ enc lsn l = ([], 1) ∨ may lsn l = true ∧ enc lsn l = (body lsn l, 0) ∧ (body lsn l).length ≤ 211 ∧ dec (body lsn l) = (lsn, l, 0) := by
  cases h : may lsn l with
  | false => exact .inl ⟨rfl, by unfold enc; rw [h]; rfl⟩
  | true =>
    have hd := dec_body h []
    rw [List.append_nil] at hd
    exact .inr ⟨rfl, by unfold enc; rw [h]; rfl, body_small h, hd⟩
theorem may_ok {lsn : Int} {l : List C} (h : may lsn l = true) (w : World) : ∀ x ∈ l, cellK.ok w x := by
  intro x hx
  obtain ⟨h1, _⟩ := may_parts h
  have := fits_sizes (rise_fits l _ h1 x hx)
  show x.key.size ≤ _ ∧ x.data.size ≤ _
  omega
theorem dec_cases (b : List UInt8) : ((dec b).2.2 ≠ 0 ∧ (dec b).1 = 0 ∧ (dec b).2.1 = []) ∨ ((dec b).2.2 = 0 ∧ may (dec b).1 (dec b).2.1 = true ∧ enc (dec b).1 (dec b).2.1 = (body (dec b).1 (dec b).2.1, 0) ∧ (body (dec b).1 (dec b).2.1).length ≤ b.length ∧ b.take (body (dec b).1 (dec b).2.1).length = body (dec b).1 (dec b).2.1) := by
  by_cases h : (dec b).2.2 = 0
  · obtain ⟨h1, rest, h2⟩ := dec_ok h
    refine .inr ⟨h, h1, by unfold enc; rw [h1]; rfl, ?_, ?_⟩
    · have h3 : ∀ (B b : List UInt8), b = B ++ rest → B.length ≤ b.length := by rintro B _ rfl; simp
      exact h3 _ _ h2
    · have h3 : ∀ (B b : List UInt8), b = B ++ rest → b.take B.length = B := by rintro B _ rfl; simp
      exact h3 _ _ h2
  · have := dec_not h
    exact .inl ⟨h, by rw [this], by rw [this]⟩
end Pg
end Go.Proofs.Ytfcmlfcpgboigaa
