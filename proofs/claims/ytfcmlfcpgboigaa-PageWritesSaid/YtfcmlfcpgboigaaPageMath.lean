/- Pages there and back, as plain data. -/
import Derived.Test.YtfcmlfcpgboigaaPageDec
import Derived.Test.YtfcmlfcpgboigaaSealMath2
namespace Go.Proofs.Ytfcmlfcpgboigaa
open Go.RowKit Mem
set_option maxRecDepth 100000
set_option linter.unusedVariables false
set_option linter.unusedSimpArgs false

namespace Rm
theorem try_front (a rest : List UInt8) : Sl.try_ ⟨a ++ rest, 0⟩ (a.length, 0) = ⟨rest, 0⟩ := by
  unfold Sl.try_
  rw [if_neg (by simp), if_neg (by simp)]
  simp
theorem text_text (s rest : List UInt8) (most : Int) (hm : (s.length : Int) ≤ most) (hb : s.length < 18446744073709551616) : text ⟨Sl.textB s ++ rest, 0⟩ most = s ∧ textR ⟨Sl.textB s ++ rest, 0⟩ most = ⟨rest, 0⟩ := by
  unfold text textR
  rw [show (⟨Sl.textB s ++ rest, 0⟩ : Sl.R).b = Sl.textB s ++ rest from rfl, Sl.textF_text s rest most hm hb]
  refine ⟨?_, try_front _ _⟩
  unfold Sl.out
  rw [if_neg (by simp)]
theorem flag_flag (x : Bool) (rest : List UInt8) : flag ⟨[if x then 1 else 0] ++ rest, 0⟩ = x ∧ flagR ⟨[if x then 1 else 0] ++ rest, 0⟩ = ⟨rest, 0⟩ := by
  cases x <;> refine ⟨?_, ?_⟩ <;> simp [flag, flagR, Sl.flagF, Sl.out, Sl.try_]
theorem one_num (x most : Int) (h0 : 0 ≤ x) (h1 : x ≤ most) (h2 : most ≤ 1099511627776) (rest : List UInt8) : one ⟨Sl.numB x ++ rest, 0⟩ most = x ∧ next ⟨Sl.numB x ++ rest, 0⟩ most = ⟨rest, 0⟩ := by
  obtain ⟨n, rfl⟩ := Int.eq_ofNat_of_zero_le h0
  have hn : Sl.number (Sl.numB (n : Int) ++ rest) most = (n, (Sl.numB (n : Int)).length, 0) := by
    rw [Sl.numB_nat']
    exact Sl.number_num n most rest h1 (by omega)
  unfold one next Sl.out Sl.try_
  simp only [hn]
  simp
end Rm
namespace Pg
theorem cellR_cellB {c : C} (h : fits c = true) (rest : List UInt8) : cellR ⟨cellB c ++ rest, 0⟩ = (c, ⟨rest, 0⟩) := by
  obtain ⟨hk, hd⟩ := fits_sizes h
  have hkl : c.key.data.toList.length = c.key.size := Array.length_toList
  have hdl : c.data.data.toList.length = c.data.size := Array.length_toList
  obtain ⟨key, has, data⟩ := c
  simp only at hk hd hkl hdl
  cases has with
  | true =>
    rw [cellB_has rfl]
    simp only [List.append_assoc]
    obtain ⟨t1, t2⟩ := Rm.text_text key.data.toList ([1] ++ (Sl.textB data.data.toList ++ rest)) 16 (by omega) (by omega)
    obtain ⟨f1, f2⟩ := Rm.flag_flag true (Sl.textB data.data.toList ++ rest)
    obtain ⟨u1, u2⟩ := Rm.text_text data.data.toList rest 32 (by omega) (by omega)
    simp only [if_true] at f1 f2
    unfold cellR
    rw [t2, f1, if_pos rfl, t1, f2, u1, u2]
  | false =>
    have hz : data.size = 0 := by
      unfold fits valOk at h
      simp only [Bool.and_eq_true, Bool.false_or] at h
      have h2 := h.2.2
      rw [ByteArray.toList_eq] at h2
      have : data.data.toList = [] := by simpa using h2
      rw [this] at hdl
      simpa using hdl.symm
    have hde : data = ⟨#[]⟩ := by
      obtain ⟨d⟩ := data
      have : d.size = 0 := hz
      rw [Array.size_eq_zero_iff] at this
      rw [this]
    subst hde
    rw [cellB_not rfl]
    simp only [List.append_assoc]
    obtain ⟨t1, t2⟩ := Rm.text_text key.data.toList ([0] ++ rest) 16 (by omega) (by omega)
    obtain ⟨f1, f2⟩ := Rm.flag_flag false rest
    simp only [Bool.false_eq_true, if_false] at f1 f2
    unfold cellR
    rw [t2, f1, if_neg (by simp), t1, f2]
theorem cellsR_flat (l : List C) (rest : List UInt8) (h : ∀ c ∈ l, fits c = true) : ∀ k, k ≤ l.length → cellsR ⟨l.flatMap cellB ++ rest, 0⟩ k = (l.take k, ⟨(l.drop k).flatMap cellB ++ rest, 0⟩)
  | 0, _ => by simp [cellsR]
  | k + 1, hk => by
    have ih := cellsR_flat l rest h k (by omega)
    have hlt : k < l.length := by omega
    unfold cellsR
    rw [ih]
    simp only
    rw [List.drop_eq_getElem_cons hlt, List.flatMap_cons, List.append_assoc, cellR_cellB (h _ (List.getElem_mem hlt)), List.take_succ_eq_append_getElem hlt]
/-- what is written is read -/
theorem dec_body {lsn : Int} {l : List C} (h : may lsn l = true) (rest : List UInt8) : dec (body lsn l ++ rest) = (lsn, l, 0) := by
  obtain ⟨h1, h2, h3, h4⟩ := may_parts h
  have hf := rise_fits l _ h1
  unfold dec decR numsR body
  simp only [List.append_assoc]
  obtain ⟨a1, a2⟩ := Rm.one_num lsn 1099511627776 h2 h3 (by omega) (Sl.numB (l.length : Int) ++ (l.flatMap cellB ++ rest))
  obtain ⟨b1, b2⟩ := Rm.one_num (l.length : Int) 4 (by omega) (by omega) (by omega) (l.flatMap cellB ++ rest)
  rw [a1, a2, b1, b2, Int.toNat_natCast, cellsR_flat l rest hf l.length (Nat.le_refl _), List.take_of_length_le (Nat.le_refl _)]
  simp [h]
end Pg
end Go.Proofs.Ytfcmlfcpgboigaa
