/- A stamped sector: the plain mathematics. -/
namespace Go.Proofs.Ytfcmlfcpgboigaa.Stamp
set_option linter.unusedVariables false
def wrapB (m : UInt8) (p : List UInt8) : List UInt8 := m :: (p ++ List.replicate (254 - p.length) 0) ++ [m]
theorem wrapB_length (m : UInt8) (p : List UInt8) (h : p.length ≤ 254) : (wrapB m p).length = 256 := by simp [wrapB]; omega
def openOk (s : List UInt8) : Bool := decide (s.getD 0 0 = s.getD 255 0 ∧ 1 ≤ (s.getD 0 0).toNat ∧ (s.getD 0 0).toNat ≤ 3)
def openB (s : List UInt8) : List UInt8 := (s.drop 1).take 254
theorem openB_length (s : List UInt8) (h : s.length = 256) : (openB s).length = 254 := by simp [openB, h]
def nextB (old : List UInt8) : UInt8 :=
  if old.getD 0 0 ≠ 1 ∧ old.getD 255 0 ≠ 1 then 1 else if old.getD 0 0 ≠ 2 ∧ old.getD 255 0 ≠ 2 then 2 else 3
theorem wrapB_head (m : UInt8) (p : List UInt8) : (wrapB m p).getD 0 0 = m := rfl
theorem wrapB_last (m : UInt8) (p : List UInt8) (h : p.length ≤ 254) : (wrapB m p).getD 255 0 = m := by
  have e : (m :: (p ++ List.replicate (254 - p.length) 0)).length = 255 := by simp; omega
  rw [wrapB, List.getD_eq_getElem?_getD, List.getElem?_append_right (by omega), e]
  rfl
theorem openB_wrapB (m : UInt8) (p : List UInt8) (h : p.length ≤ 254) : openB (wrapB m p) = p ++ List.replicate (254 - p.length) 0 := by
  unfold openB wrapB
  have e : (p ++ List.replicate (254 - p.length) (0 : UInt8)).length = 254 := by simp; omega
  rw [List.cons_append, List.drop_one, List.tail_cons, List.take_append_of_le_length (by omega), List.take_of_length_le (by omega)]
theorem wrapB_openB (s : List UInt8) (h : s.length = 256) (ho : openOk s = true) : wrapB (s.getD 0 0) (openB s) = s := by
  have ho' : s.getD 0 0 = s.getD 255 0 := by
    have := of_decide_eq_true ho
    exact this.1
  have e1 : openB s ++ List.replicate (254 - (openB s).length) 0 = openB s := by rw [openB_length s h]; simp
  unfold wrapB
  rw [e1]
  apply List.ext_getElem?
  intro i
  by_cases h0 : i = 0
  · subst h0
    have hp : 0 < s.length := by omega
    rw [List.getD_eq_getElem?_getD, List.getElem?_eq_getElem hp]
    rfl
  · obtain ⟨j, rfl⟩ : ∃ j, i = j + 1 := ⟨i - 1, by omega⟩
    rw [List.cons_append, List.getElem?_cons_succ]
    by_cases hj : j < 254
    · rw [List.getElem?_append_left (by rw [openB_length s h]; exact hj)]
      unfold openB
      rw [List.getElem?_take, if_pos hj, List.getElem?_drop, Nat.add_comm]
    · by_cases hj2 : j = 254
      · subst hj2
        rw [List.getElem?_append_right (by rw [openB_length s h]; omega), openB_length s h, ho', List.getD_eq_getElem?_getD]
        have hp : 255 < s.length := by omega
        rw [List.getElem?_eq_getElem hp]
        rfl
      · rw [List.getElem?_eq_none (by simp [openB_length s h]; omega), List.getElem?_eq_none (by omega)]
theorem nextB_range (old : List UInt8) : 1 ≤ (nextB old).toNat ∧ (nextB old).toNat ≤ 3 := by
  unfold nextB
  split
  · decide
  · split <;> decide
theorem nextB_ne (old : List UInt8) : nextB old ≠ old.getD 0 0 ∧ nextB old ≠ old.getD 255 0 := by
  unfold nextB
  generalize old.getD 0 0 = a
  generalize old.getD 255 0 = b
  by_cases h1 : a ≠ 1 ∧ b ≠ 1
  · rw [if_pos h1]; exact ⟨fun e => h1.1 e.symm, fun e => h1.2 e.symm⟩
  · rw [if_neg h1]
    by_cases h2 : a ≠ 2 ∧ b ≠ 2
    · rw [if_pos h2]; exact ⟨fun e => h2.1 e.symm, fun e => h2.2 e.symm⟩
    · rw [if_neg h2]
      have hd1 : ¬ ((1 : UInt8) = 2) := by decide
      have hd2 : ¬ ((3 : UInt8) = 1) := by decide
      have hd3 : ¬ ((3 : UInt8) = 2) := by decide
      constructor
      · rintro rfl
        rcases Classical.em (b = 1) with hb | hb
        · subst hb; exact h2 ⟨hd3, hd1⟩
        · exact h1 ⟨hd2, hb⟩
      · rintro rfl
        rcases Classical.em (a = 1) with ha | ha
        · subst ha; exact h2 ⟨hd1, hd3⟩
        · exact h1 ⟨ha, hd2⟩
/-- torn over what stood there -/
def mixed (m : UInt8) (p was : List UInt8) (cut : Nat) : List UInt8 := (wrapB m p).take cut ++ was.drop cut
theorem mixed_torn (p was : List UInt8) (cut : Nat) (hp : p.length ≤ 254) (hw : was.length = 256) (h0 : 0 < cut) (h1 : cut < 256) : openOk (mixed (nextB was) p was cut) = false := by
  have e0 : (mixed (nextB was) p was cut).getD 0 0 = nextB was := by
    unfold mixed
    rw [List.getD_eq_getElem?_getD, List.getElem?_append_left (by rw [List.length_take, wrapB_length _ _ hp]; omega), List.getElem?_take, if_pos h0, ← List.getD_eq_getElem?_getD, wrapB_head]
  have e1 : (mixed (nextB was) p was cut).getD 255 0 = was.getD 255 0 := by
    unfold mixed
    have hl : ((wrapB (nextB was) p).take cut).length = cut := by rw [List.length_take, wrapB_length _ _ hp]; omega
    rw [List.getD_eq_getElem?_getD, List.getElem?_append_right (by rw [hl]; omega), hl, List.getElem?_drop, show cut + (255 - cut) = 255 by omega, List.getD_eq_getElem?_getD]
  unfold openOk
  rw [e0, e1]
  apply decide_eq_false
  intro h
  exact (nextB_ne was).2 h.1
theorem mixed_all (m : UInt8) (p was : List UInt8) (hp : p.length ≤ 254) (hw : was.length = 256) : mixed m p was 256 = wrapB m p := by
  unfold mixed
  rw [List.take_of_length_le (by rw [wrapB_length _ _ hp]; omega), List.drop_of_length_le (by omega), List.append_nil]
theorem openOk_wrapB (m : UInt8) (p : List UInt8) (hp : p.length ≤ 254) (h1 : 1 ≤ m.toNat) (h3 : m.toNat ≤ 3) : openOk (wrapB m p) = true := by
  unfold openOk
  rw [wrapB_head, wrapB_last _ _ hp]
  exact decide_eq_true ⟨rfl, h1, h3⟩
theorem mixed_length (m : UInt8) (p was : List UInt8) (cut : Nat) (hp : p.length ≤ 254) (hw : was.length = 256) (h : cut ≤ 256) : (mixed m p was cut).length = 256 := by
  unfold mixed
  rw [List.length_append, List.length_take, wrapB_length _ _ hp, List.length_drop]
  omega
/-! what the calls come to: bytes (a mark), and the error -/
def wrapR (m : UInt8) (p : List UInt8) : List UInt8 × Nat := if m.toNat < 1 ∨ 3 < m.toNat then ([], 1) else if 254 < p.length then ([], 12) else (wrapB m p, 0)
def openR (s : List UInt8) : List UInt8 × Nat := if s.length ≠ 256 then ([], 12) else if openOk s then (openB s, 0) else ([], 50)
def nextR (old : List UInt8) : UInt8 × Nat := if old.length ≠ 256 then (0, 12) else (nextB old, 0)
end Go.Proofs.Ytfcmlfcpgboigaa.Stamp
