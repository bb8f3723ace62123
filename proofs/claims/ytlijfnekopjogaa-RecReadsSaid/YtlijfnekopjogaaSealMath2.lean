/- Layer 3 as plain data: there and back. -/
import Derived.Test.YtlijfnekopjogaaSealMath
namespace Go.Proofs.Ytlijfnekopjogaa.Sl
open Go.Proofs.Ytlijfnekopjogaa

theorem numB_nat' (m : Nat) : numB (m : Int) = Num.shortB m := by
  unfold numB
  congr 1
  omega
theorem numB_length (n : Int) : 1 ≤ (numB n).length ∧ (numB n).length ≤ 11 := by
  unfold numB
  exact ⟨by rw [Num.shortB_length]; omega, Num.shortB_length_le _⟩
theorem number_num (m : Nat) (most : Int) (rest : List UInt8) (hm : (m : Int) ≤ most) (hb : m < 18446744073709551616) : number (Num.shortB m ++ rest) most = (m, (Num.shortB m).length, 0) := by
  unfold number
  rw [Num.take_short m rest hb, if_neg (by simp), if_neg (by simp only; omega)]
theorem textB_length (s : List UInt8) : (textB s).length = (numB s.length).length + s.length := by rw [textB, List.length_append]
theorem textF_text (s rest : List UInt8) (most : Int) (hm : (s.length : Int) ≤ most) (hb : s.length < 18446744073709551616) : textF (textB s ++ rest) most = (s, (textB s).length, 0) := by
  have hn : number (textB s ++ rest) most = (s.length, (numB s.length).length, 0) := by
    rw [textB, numB_nat', List.append_assoc]
    exact number_num s.length most _ hm hb
  unfold textF
  rw [hn, if_neg (by simp), if_neg (by simp only [List.length_append, textB_length]; omega)]
  simp only [Prod.mk.injEq, and_true]
  refine ⟨?_, (textB_length s).symm⟩
  rw [textB, List.append_assoc, List.drop_left, List.take_left]
theorem sealB_length (s : List UInt8) : (sealB s).length = (textB s).length + 4 := by rw [sealB, List.length_append, sum4_length]
theorem open_seal (s rest : List UInt8) (h : s.length ≤ 4096) : openB (sealB s ++ rest) = (s, (sealB s).length, 0) := by
  have ht : textF (sealB s ++ rest) 4096 = (s, (textB s).length, 0) := by
    rw [sealB, List.append_assoc]
    exact textF_text s _ 4096 (by omega) (by omega)
  unfold openB
  rw [ht, if_neg (by simp), if_neg (by simp only [List.length_append, sealB_length]; omega)]
  have e1 : (sealB s ++ rest).take (textB s).length = textB s := by rw [sealB, List.append_assoc, List.take_left]
  have e2 : ((sealB s ++ rest).drop (textB s).length).take 4 = sum4 (Crc.sum (textB s)) := by
    rw [sealB, List.append_assoc, List.drop_left]
    exact List.take_left' (sum4_length _)
  simp only [e1, e2]
  rw [if_neg (by simp), sealB_length]
theorem number_back (b : List UInt8) (most : Int) (z k : Nat) (h : number b most = (z, k, 0)) : k ≤ b.length ∧ z < 18446744073709551616 ∧ Num.shortB z = b.take k ∧ (z : Int) ≤ most := by
  unfold number at h
  split at h
  · rename_i h1
    simp only [Prod.mk.injEq] at h
    exact absurd h.2.2 h1
  · split at h
    · simp at h
    · rename_i h1 h2
      obtain ⟨g1, g2, g3⟩ := Num.take_back b z k h
      refine ⟨g1, g2, g3, ?_⟩
      rw [h] at h2
      simp only at h2
      omega
theorem textF_back (b : List UInt8) (most : Int) (s : List UInt8) (k : Nat) (h : textF b most = (s, k, 0)) : k ≤ b.length ∧ textB s = b.take k ∧ (s.length : Int) ≤ most := by
  unfold textF at h
  split at h
  · rename_i h1
    simp only [Prod.mk.injEq] at h
    exact absurd h.2.2 h1
  · split at h
    · simp at h
    · rename_i h1 h2
      generalize hn : number b most = t at *
      obtain ⟨z, j, e⟩ := t
      simp only [Prod.mk.injEq, and_true, ne_eq, Decidable.not_not] at h h1 h2
      subst h1
      obtain ⟨g1, g2, g3, g4⟩ := number_back b most z j hn
      obtain ⟨rfl, rfl⟩ := h
      have hl : (List.take z (List.drop j b)).length = z := by rw [List.length_take, List.length_drop]; omega
      refine ⟨by omega, ?_, by rw [hl]; exact g4⟩
      rw [textB, hl, numB_nat', g3, List.take_add]
theorem seal_of_open (b s : List UInt8) (n : Nat) (h : openB b = (s, n, 0)) : s.length ≤ 4096 ∧ n ≤ b.length ∧ sealB s = b.take n := by
  unfold openB at h
  split at h
  · rename_i h1
    simp only [Prod.mk.injEq] at h
    exact absurd h.2.2 h1
  · split at h
    · simp at h
    · split at h
      · simp at h
      · rename_i h1 h2 h3
        generalize ht : textF b 4096 = t at *
        obtain ⟨s', k, e⟩ := t
        simp only [Prod.mk.injEq, and_true, ne_eq, Decidable.not_not] at h h1 h2 h3
        subst h1
        obtain ⟨g1, g2, g3⟩ := textF_back b 4096 s' k ht
        obtain ⟨rfl, rfl⟩ := h
        refine ⟨by omega, by omega, ?_⟩
        rw [sealB, g2, h3, List.take_add]
/-- nothing but OK says that there is one -/
theorem open_err (b : List UInt8) (h : (openB b).2.2 ≠ 0) : openB b = ([], 0, (openB b).2.2) := by
  revert h
  unfold openB
  split
  · intro _; rfl
  · split
    · intro _; rfl
    · split
      · intro _; rfl
      · intro h; exact absurd rfl h
theorem textF_cut (s : List UInt8) (j : Nat) (most : Int) (hj : j < (textB s).length) (hs : (s.length : Int) ≤ most) (hb : s.length < 18446744073709551616) : textF ((textB s).take j) most = ([], 0, 10) := by
  rcases Nat.lt_or_ge j (numB s.length).length with h | h
  · have e : (textB s).take j = (Num.shortB s.length).take j := by
      rw [textB, numB_nat', List.take_append_of_le_length]
      rw [← numB_nat']; omega
    have ht : number ((textB s).take j) most = (0, 0, 10) := by
      rw [e]
      unfold number
      rw [Num.take_cut s.length j hb (by rw [← numB_nat']; exact h), if_pos (by simp)]
    unfold textF
    rw [ht, if_pos (by simp)]
  · have e : (textB s).take j = Num.shortB s.length ++ s.take (j - (numB s.length).length) := by
      rw [textB, List.take_append, List.take_of_length_le h, numB_nat']
    have ht : number ((textB s).take j) most = (s.length, (Num.shortB s.length).length, 0) := by
      rw [e]; exact number_num s.length most _ hs hb
    unfold textF
    rw [ht, if_neg (by simp), if_pos]
    simp only
    rw [textB_length] at hj
    rw [← numB_nat', List.length_take, textB_length]
    omega
theorem open_cut (s : List UInt8) (j : Nat) (hs : s.length ≤ 4096) (hj : j < (sealB s).length) : openB ((sealB s).take j) = ([], 0, 10) := by
  rcases Nat.lt_or_ge j (textB s).length with h | h
  · have e : (sealB s).take j = (textB s).take j := by rw [sealB, List.take_append_of_le_length (by omega)]
    unfold openB
    rw [e, textF_cut s j 4096 h (by omega) (by omega), if_pos (by simp)]
  · have e : (sealB s).take j = textB s ++ (sum4 (Crc.sum (textB s))).take (j - (textB s).length) := by
      rw [sealB, List.take_append, List.take_of_length_le h]
    have ht := textF_text s ((sum4 (Crc.sum (textB s))).take (j - (textB s).length)) 4096 (by omega) (by omega)
    unfold openB
    rw [e, ht, if_neg (by simp), if_pos]
    rw [sealB_length] at hj
    simp only [List.length_append, List.length_take, sum4_length]
    omega
end Go.Proofs.Ytlijfnekopjogaa.Sl
