/- What is decoded has just the bytes that were gone through. -/
import Derived.Test.YtfcmlfcpgboigaaPageMath
namespace Go.Proofs.Ytfcmlfcpgboigaa
open Go.RowKit Mem
set_option maxRecDepth 100000
set_option linter.unusedVariables false
set_option linter.unusedSimpArgs false

namespace Rm
theorem try_back {r : Sl.R} {x : Nat × Nat} (h : (Sl.try_ r x).e = 0) : r.e = 0 ∧ x.2 = 0 ∧ Sl.try_ r x = ⟨r.b.drop x.1, 0⟩ := by
  unfold Sl.try_ at h ⊢
  by_cases h1 : r.e ≠ 0
  · rw [if_pos h1] at h; exact absurd h h1
  · rw [if_neg h1] at h ⊢
    by_cases h2 : x.2 ≠ 0
    · rw [if_pos h2] at h; exact absurd h h2
    · rw [if_neg h2]
      exact ⟨by omega, by omega, rfl⟩
theorem out_ok {α : Type} {r : Sl.R} (h : r.e = 0) (z a : α) : Sl.out r z a = a := by unfold Sl.out; rw [if_neg (by omega)]
theorem text_back {r : Sl.R} {most : Int} (h : (textR r most).e = 0) : r.e = 0 ∧ Sl.textB (text r most) ++ (textR r most).b = r.b := by
  unfold textR at h ⊢
  obtain ⟨h1, h2, h3⟩ := try_back h
  refine ⟨h1, ?_⟩
  rw [h3]
  unfold text
  rw [out_ok h1]
  obtain ⟨_, h4, _⟩ := Sl.textF_back r.b most (Sl.textF r.b most).1 (Sl.textF r.b most).2.1 (by rw [← h2])
  rw [h4, List.take_append_drop]
theorem flag_back {r : Sl.R} (h : (flagR r).e = 0) : r.e = 0 ∧ [if flag r then 1 else 0] ++ (flagR r).b = r.b := by
  unfold flagR at h ⊢
  obtain ⟨h1, h2, h3⟩ := try_back h
  refine ⟨h1, ?_⟩
  rw [h3]
  unfold flag
  rw [out_ok h1]
  obtain ⟨b, e⟩ := r
  simp only at h2 ⊢
  cases b with
  | nil => simp [Sl.flagF] at h2
  | cons a t =>
    have h4 : ¬ 1 < ((a :: t).getD 0 0).toNat := fun h4 => by
      unfold Sl.flagF at h2
      rw [if_neg (by simp), if_pos h4] at h2
      simp at h2
    have hF : Sl.flagF (a :: t) = (decide (a.toNat = 1), 1, 0) := by
      unfold Sl.flagF
      rw [if_neg (by simp), if_neg h4]
      rfl
    rw [hF]
    have h6 : ¬ 1 < a.toNat := h4
    have h5 : a.toNat = 0 ∨ a.toNat = 1 := by omega
    rcases h5 with h5 | h5
    · have : a = 0 := UInt8.toNat_inj.1 h5
      subst this
      rfl
    · have : a = 1 := UInt8.toNat_inj.1 h5
      subst this
      rfl
theorem next_back (r : Sl.R) (most : Int) (h : (next r most).e = 0) : r.e = 0 ∧ Sl.numB (one r most) ++ (next r most).b = r.b := by
  unfold next Sl.try_ at h
  by_cases he : r.e ≠ 0
  · rw [if_pos he] at h; exact absurd h he
  · rw [if_neg he] at h
    have he0 : r.e = 0 := by omega
    by_cases hx : (Sl.number r.b most).2.2 ≠ 0
    · rw [if_pos hx] at h; exact absurd h hx
    · obtain ⟨b1, b2, b3, b4⟩ := Sl.number_back r.b most (Sl.number r.b most).1 (Sl.number r.b most).2.1 (by
        have : (Sl.number r.b most).2.2 = 0 := by omega
        rw [← this])
      refine ⟨he0, ?_⟩
      unfold one next Sl.try_ Sl.out
      rw [if_neg he, if_neg he, if_neg hx, Sl.numB_nat', b3]
      simp
end Rm
namespace Pg
theorem cellR_back {r : Sl.R} (h : (cellR r).2.e = 0) : r.e = 0 ∧ cellB (cellR r).1 ++ (cellR r).2.b = r.b := by
  unfold cellR at h ⊢
  by_cases hf : Rm.flag (Rm.textR r 16) = true
  · rw [if_pos hf] at h ⊢
    obtain ⟨u1, u2⟩ := Rm.text_back h
    obtain ⟨f1, f2⟩ := Rm.flag_back u1
    obtain ⟨t1, t2⟩ := Rm.text_back f1
    refine ⟨t1, ?_⟩
    rw [cellB_has rfl, ← t2, ← f2, ← u2, hf]
    simp
  · have hf' : Rm.flag (Rm.textR r 16) = false := by simpa using hf
    rw [if_neg hf] at h ⊢
    obtain ⟨f1, f2⟩ := Rm.flag_back h
    obtain ⟨t1, t2⟩ := Rm.text_back f1
    refine ⟨t1, ?_⟩
    rw [cellB_not rfl, ← t2, ← f2, hf']
    simp
theorem cellsR_back (r : Sl.R) : ∀ k, (cellsR r k).2.e = 0 → r.e = 0 ∧ (cellsR r k).1.flatMap cellB ++ (cellsR r k).2.b = r.b
  | 0, h => ⟨h, rfl⟩
  | k + 1, h => by
    obtain ⟨h1, h2⟩ := cellR_back h
    obtain ⟨i1, i2⟩ := cellsR_back r k h1
    refine ⟨i1, ?_⟩
    show ((cellsR r k).1 ++ [(cellR (cellsR r k).2).1]).flatMap cellB ++ (cellR (cellsR r k).2).2.b = r.b
    rw [List.flatMap_append]
    simp only [List.flatMap_cons, List.flatMap_nil, List.append_nil]
    rw [List.append_assoc, h2, i2]
end Pg
end Go.Proofs.Ytfcmlfcpgboigaa
