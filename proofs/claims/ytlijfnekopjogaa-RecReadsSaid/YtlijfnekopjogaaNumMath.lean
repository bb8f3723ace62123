/- Numbers as bytes: the plain mathematics, no Go in sight. -/
namespace Go.Proofs.Ytlijfnekopjogaa.Num

/-! wide bytes, the highest first -/
def wideB : Nat → Nat → List UInt8
  | _, 0 => []
  | n, k + 1 => wideB (n / 256) k ++ [UInt8.ofNat n]
theorem wideB_length (k : Nat) : ∀ n, (wideB n k).length = k := by
  induction k with
  | zero => intro n; rfl
  | succ k ih => intro n; simp [wideB, ih]
theorem wideB_getD (k : Nat) : ∀ n i, i < k → (wideB n k).getD i 0 = UInt8.ofNat (n / 256 ^ (k - 1 - i)) := by
  induction k with
  | zero => intro n i hi; omega
  | succ k ih =>
    intro n i hi
    rw [wideB, List.getD_eq_getElem?_getD]
    by_cases h : i < k
    · rw [List.getElem?_append_left (by rw [wideB_length]; exact h), ← List.getD_eq_getElem?_getD, ih _ _ h, Nat.div_div_eq_div_mul]
      congr 2
      rw [show k + 1 - 1 - i = (k - 1 - i) + 1 by omega, Nat.pow_succ, Nat.mul_comm]
    · obtain rfl : i = k := by omega
      rw [List.getElem?_append_right (by rw [wideB_length]; omega), wideB_length]
      simp
def unwide (bs : List UInt8) : Nat := bs.foldl (fun n b => n * 256 + b.toNat) 0
theorem unwide_snoc (bs : List UInt8) (b : UInt8) : unwide (bs ++ [b]) = unwide bs * 256 + b.toNat := by simp [unwide]
theorem unwide_from (bs : List UInt8) : ∀ m n : Nat, n < m → bs.foldl (fun n b => n * 256 + b.toNat) n < m * 256 ^ bs.length := by
  induction bs with
  | nil => intro m n h; simpa using h
  | cons b bs ih =>
    intro m n h
    have hb := b.toNat_lt
    have h1 : n * 256 + b.toNat < m * 256 := by omega
    have := ih (m * 256) _ h1
    rw [List.foldl_cons, List.length_cons, Nat.pow_succ, Nat.mul_comm (256 ^ bs.length), ← Nat.mul_assoc]
    exact this
theorem unwide_lt (bs : List UInt8) : unwide bs < 256 ^ bs.length := by
  have := unwide_from bs 1 0 (by omega)
  rw [Nat.one_mul] at this
  exact this
theorem unwide_wide (k : Nat) : ∀ n, n < 256 ^ k → unwide (wideB n k) = n := by
  induction k with
  | zero => intro n h; simp at h; subst h; rfl
  | succ k ih =>
    intro n h
    rw [wideB, unwide_snoc, ih _ (by rw [Nat.pow_succ] at h; omega), UInt8.toNat_ofNat']
    omega
theorem wide_of_unwide (bs : List UInt8) : ∀ k, bs.length = k → wideB (unwide bs) k = bs := by
  intro k
  induction k generalizing bs with
  | zero => intro h; rw [List.eq_nil_of_length_eq_zero h]; rfl
  | succ k ih =>
    intro h
    have hne : bs ≠ [] := fun e => by rw [e] at h; simp at h
    have e := List.dropLast_concat_getLast hne
    rw [← e, unwide_snoc, wideB]
    have hb := (bs.getLast hne).toNat_lt
    have e1 : (unwide bs.dropLast * 256 + (bs.getLast hne).toNat) / 256 = unwide bs.dropLast := by omega
    have e2 : UInt8.ofNat (unwide bs.dropLast * 256 + (bs.getLast hne).toNat) = bs.getLast hne := by
      apply UInt8.toNat_inj.1
      rw [UInt8.toNat_ofNat']
      omega
    rw [e1, e2, ih bs.dropLast (by rw [List.length_dropLast]; omega)]

/-! which text comes first -/
def less : List UInt8 → List UInt8 → Bool
  | [], [] => false
  | [], _ :: _ => true
  | _ :: _, [] => false
  | a :: x, b :: y => if a = b then less x y else decide (a < b)
theorem less_snoc (x : List UInt8) : ∀ (y : List UInt8) (a b : UInt8), x.length = y.length → less (x ++ [a]) (y ++ [b]) = (less x y || (decide (x = y) && decide (a < b))) := by
  induction x with
  | nil =>
    intro y a b h
    have : y = [] := List.eq_nil_of_length_eq_zero h.symm
    subst this
    simp only [List.nil_append, less]
    by_cases e : a = b
    · subst e; simp
    · simp [e]
  | cons c x ih =>
    intro y a b h
    cases y with
    | nil => simp at h
    | cons d y =>
      simp only [List.cons_append, less]
      by_cases e : c = d
      · subst e
        simp only [if_true]
        rw [ih y a b (by simpa using h)]
        simp
      · simp [e]
theorem wideB_inj (k : Nat) (a b : Nat) (ha : a < 256 ^ k) (hb : b < 256 ^ k) (h : wideB a k = wideB b k) : a = b := by
  rw [← unwide_wide k a ha, h, unwide_wide k b hb]
theorem less_wide (k : Nat) : ∀ a b, a < 256 ^ k → b < 256 ^ k → less (wideB a k) (wideB b k) = decide (a < b) := by
  induction k with
  | zero => intro a b ha hb; simp at ha hb; subst ha; subst hb; rfl
  | succ k ih =>
    intro a b ha hb
    rw [Nat.pow_succ] at ha hb
    have ha' : a / 256 < 256 ^ k := by omega
    have hb' : b / 256 < 256 ^ k := by omega
    rw [wideB, wideB, less_snoc _ _ _ _ (by rw [wideB_length, wideB_length]), ih _ _ ha' hb']
    have e1 : decide (wideB (a / 256) k = wideB (b / 256) k) = decide (a / 256 = b / 256) := by
      apply decide_eq_decide.2
      exact ⟨wideB_inj k _ _ ha' hb', fun h => by rw [h]⟩
    have e2 : decide (UInt8.ofNat a < UInt8.ofNat b) = decide (a % 256 < b % 256) := by
      apply decide_eq_decide.2
      rw [UInt8.lt_iff_toNat_lt, UInt8.toNat_ofNat', UInt8.toNat_ofNat']
    rw [e1, e2]
    by_cases h : a < b
    · simp only [h, decide_true, Bool.or_eq_true, Bool.and_eq_true, decide_eq_true_eq]
      omega
    · simp only [h, decide_false, Bool.or_eq_false_iff, Bool.and_eq_false_imp, decide_eq_true_eq, decide_eq_false_iff_not]
      omega

/-! short bytes: digits to the base 128 -/
def hiB : Nat → Nat → List UInt8
  | 0, _ => []
  | f + 1, n => if n = 0 then [] else hiB f (n / 128) ++ [UInt8.ofNat (n % 128 + 128)]
def shortGo : Nat → Nat → List UInt8 → List UInt8
  | 0, _, acc => acc
  | f + 1, n, acc => if n = 0 then acc else shortGo f (n / 128) (UInt8.ofNat (n % 128 + 128) :: acc)
def shortB (n : Nat) : List UInt8 := shortGo 10 (n / 128) [UInt8.ofNat (n % 128)]
theorem shortGo_eq (f : Nat) : ∀ n acc, shortGo f n acc = hiB f n ++ acc := by
  induction f with
  | zero => intro n acc; rfl
  | succ f ih =>
    intro n acc
    unfold shortGo hiB
    by_cases h : n = 0
    · simp [h]
    · simp [h, ih]
theorem shortB_eq (n : Nat) : shortB n = hiB 10 (n / 128) ++ [UInt8.ofNat (n % 128)] := shortGo_eq _ _ _
theorem hiB_zero (f : Nat) : hiB f 0 = [] := by cases f <;> simp [hiB]
theorem hiB_succ (f n : Nat) : hiB (f + 1) n = if n = 0 then [] else hiB f (n / 128) ++ [UInt8.ofNat (n % 128 + 128)] := rfl
theorem hiB_fuel (f : Nat) : ∀ n, n < 128 ^ f → hiB (f + 1) n = hiB f n := by
  induction f with
  | zero => intro n h; simp at h; subst h; rfl
  | succ f ih =>
    intro n h
    rw [hiB_succ (f + 1) n, hiB_succ f n]
    by_cases h0 : n = 0
    · simp [h0]
    · rw [if_neg h0, if_neg h0, ih (n / 128) (by rw [Nat.pow_succ] at h; omega)]
theorem hiB_length_le (f : Nat) : ∀ n, (hiB f n).length ≤ f := by
  induction f with
  | zero => intro n; simp [hiB]
  | succ f ih =>
    intro n
    rw [hiB]
    split
    · simp
    · have := ih (n / 128); simp; omega
theorem hiB_length_mono (f : Nat) : ∀ a b, a ≤ b → (hiB f a).length ≤ (hiB f b).length := by
  induction f with
  | zero => intro a b _; simp [hiB]
  | succ f ih =>
    intro a b h
    rw [hiB, hiB]
    by_cases ha : a = 0
    · simp [ha]
    · rw [if_neg ha, if_neg (by omega)]
      have := ih (a / 128) (b / 128) (Nat.div_le_div_right h)
      simp; omega
theorem hiB_ne_nil (f n : Nat) (hf : 0 < f) (hn : n ≠ 0) : hiB f n ≠ [] := by
  cases f with
  | zero => omega
  | succ f => rw [hiB, if_neg hn]; simp
theorem shortB_length (n : Nat) : (shortB n).length = (hiB 10 (n / 128)).length + 1 := by rw [shortB_eq]; simp
theorem shortB_mono (a b : Nat) (h : a ≤ b) : (shortB a).length ≤ (shortB b).length := by
  rw [shortB_length, shortB_length]
  have := hiB_length_mono 10 (a / 128) (b / 128) (Nat.div_le_div_right h)
  omega
theorem shortB_length_le (n : Nat) : (shortB n).length ≤ 11 := by
  rw [shortB_length]
  have := hiB_length_le 10 (n / 128)
  omega
/-- value, how many bytes, error -/
def takeGo : Nat → Nat → List UInt8 → Nat × Nat × Nat
  | _, _, [] => (0, 0, 10)
  | i, n, c :: r => if i = 0 ∧ c.toNat = 128 then (0, 0, 11) else if 144115188075855872 ≤ n then (0, 0, 12) else
      if c.toNat < 128 then (n * 128 + c.toNat % 128, i + 1, 0) else takeGo (i + 1) (n * 128 + c.toNat % 128) r
def takeShort (bs : List UInt8) : Nat × Nat × Nat := takeGo 0 0 bs
theorem takeGo_hi (f : Nat) : ∀ n rest, n < 128 ^ f → n < 144115188075855872 → takeGo 0 0 (hiB f n ++ rest) = takeGo (hiB f n).length n rest := by
  induction f with
  | zero => intro n rest h _; simp at h; subst h; rfl
  | succ f ih =>
    intro n rest h1 h2
    rw [hiB]
    by_cases h0 : n = 0
    · simp [h0]
    · rw [if_neg h0, List.append_assoc, ih (n / 128) _ (by rw [Nat.pow_succ] at h1; omega) (by omega)]
      have hc : (UInt8.ofNat (n % 128 + 128)).toNat = n % 128 + 128 := by rw [UInt8.toNat_ofNat']; omega
      simp only [List.singleton_append, takeGo, hc]
      have hne : ¬ ((hiB f (n / 128)).length = 0 ∧ n % 128 + 128 = 128) := by
        rintro ⟨a, b⟩
        have h128 : n / 128 ≠ 0 := by omega
        have hf : 0 < f := by
          rcases Nat.eq_zero_or_pos f with e | e
          · subst e; simp at h1; omega
          · exact e
        exact hiB_ne_nil f (n / 128) hf h128 (List.eq_nil_of_length_eq_zero a)
      rw [if_neg hne, if_neg (by omega), if_neg (by omega)]
      have e : n / 128 * 128 + (n % 128 + 128) % 128 = n := by omega
      rw [e]
      simp
theorem p10 : (128 : Nat) ^ 10 = 1180591620717411303424 := by decide
theorem p9 : (128 : Nat) ^ 9 = 9223372036854775808 := by decide
theorem take_short (n : Nat) (rest : List UInt8) (h : n < 18446744073709551616) : takeShort (shortB n ++ rest) = (n, (shortB n).length, 0) := by
  unfold takeShort
  rw [shortB_length, shortB_eq, List.append_assoc, takeGo_hi 10 (n / 128) _ (by rw [p10]; omega) (by omega)]
  have hc : (UInt8.ofNat (n % 128)).toNat = n % 128 := by rw [UInt8.toNat_ofNat']; omega
  simp only [List.singleton_append, takeGo, hc]
  rw [if_neg (by omega), if_neg (by omega), if_pos (by omega)]
  have e : n / 128 * 128 + n % 128 % 128 = n := by omega
  rw [e]
theorem hiB_take (f : Nat) : ∀ n j, n < 128 ^ f → j ≤ (hiB f n).length → ∃ m, m ≤ n ∧ (hiB f n).take j = hiB f m := by
  induction f with
  | zero => intro n j _ _; exact ⟨n, Nat.le_refl _, by simp [hiB]⟩
  | succ f ih =>
    intro n j hn hj
    by_cases h0 : n = 0
    · subst h0; exact ⟨0, Nat.le_refl _, by simp [hiB_zero]⟩
    · have e : hiB (f + 1) n = hiB f (n / 128) ++ [UInt8.ofNat (n % 128 + 128)] := by rw [hiB_succ, if_neg h0]
      have hn' : n / 128 < 128 ^ f := by rw [Nat.pow_succ] at hn; omega
      by_cases hlt : j ≤ (hiB f (n / 128)).length
      · obtain ⟨m, hm, h⟩ := ih (n / 128) j hn' hlt
        refine ⟨m, by omega, ?_⟩
        rw [e, List.take_append_of_le_length hlt, h, hiB_fuel f m (by omega)]
      · rw [e] at hj
        have : j = (hiB (f + 1) n).length := by rw [e]; simp at hj ⊢; omega
        rw [this, List.take_length]
        exact ⟨n, Nat.le_refl _, rfl⟩
/-- no beginning is read -/
theorem take_cut (n j : Nat) (h : n < 18446744073709551616) (hj : j < (shortB n).length) : takeShort ((shortB n).take j) = (0, 0, 10) := by
  rw [shortB_length] at hj
  rw [shortB_eq, List.take_append_of_le_length (by omega)]
  obtain ⟨m, hm, e⟩ := hiB_take 10 (n / 128) j (by rw [p10]; omega) (by omega)
  rw [e]
  have := takeGo_hi 10 m [] (by rw [p10]; omega) (by omega)
  rw [List.append_nil] at this
  unfold takeShort
  rw [this, takeGo]
/-- what is read has just the bytes that were gone through -/
theorem takeGo_back (bs : List UInt8) : ∀ n, n < 18446744073709551616 → ∀ z k, takeGo (hiB 10 n).length n bs = (z, k, 0) →
    k ≤ (hiB 10 n).length + bs.length ∧ (hiB 10 n).length < k ∧ z < 18446744073709551616 ∧ shortB z = hiB 10 n ++ bs.take (k - (hiB 10 n).length) := by
  induction bs with
  | nil => intro n _ z k h; simp [takeGo] at h
  | cons c bs ih =>
    intro n hn z k h
    rw [takeGo] at h
    by_cases h1 : (hiB 10 n).length = 0 ∧ c.toNat = 128
    · rw [if_pos h1] at h; simp at h
    rw [if_neg h1] at h
    by_cases h2 : 144115188075855872 ≤ n
    · rw [if_pos h2] at h; simp at h
    rw [if_neg h2] at h
    by_cases h3 : c.toNat < 128
    · rw [if_pos h3] at h
      simp only [Prod.mk.injEq, and_true] at h
      obtain ⟨rfl, rfl⟩ := h
      refine ⟨by rw [List.length_cons]; omega, by omega, by omega, ?_⟩
      rw [shortB_eq]
      have e1 : (n * 128 + c.toNat % 128) / 128 = n := by omega
      have e2 : UInt8.ofNat ((n * 128 + c.toNat % 128) % 128) = c := by
        apply UInt8.toNat_inj.1; rw [UInt8.toNat_ofNat']; omega
      rw [e1, e2, show (hiB 10 n).length + 1 - (hiB 10 n).length = 1 by omega]
      simp
    · rw [if_neg h3] at h
      have hc := c.toNat_lt
      have hz : n * 128 + c.toNat % 128 ≠ 0 := by
        intro e
        apply h1
        have : n = 0 := by omega
        subst this
        exact ⟨by rw [hiB_zero]; rfl, by omega⟩
      have e1 : hiB 10 (n * 128 + c.toNat % 128) = hiB 10 n ++ [c] := by
        rw [hiB_succ, if_neg hz]
        have a1 : (n * 128 + c.toNat % 128) / 128 = n := by omega
        have a2 : UInt8.ofNat ((n * 128 + c.toNat % 128) % 128 + 128) = c := by
          apply UInt8.toNat_inj.1; rw [UInt8.toNat_ofNat']; omega
        rw [a1, a2, hiB_fuel 9 n (by rw [p9]; omega)]
      have e2 : (hiB 10 n).length + 1 = (hiB 10 (n * 128 + c.toNat % 128)).length := by rw [e1]; simp
      rw [e2] at h
      obtain ⟨a, b, d, e⟩ := ih _ (by omega) z k h
      rw [← e2] at a b e
      refine ⟨by rw [List.length_cons]; omega, by omega, d, ?_⟩
      rw [e, e1, List.append_assoc]
      congr 1
      obtain ⟨j, hj⟩ : ∃ j, k = (hiB 10 n).length + 1 + j := ⟨k - ((hiB 10 n).length + 1), by omega⟩
      rw [hj, show (hiB 10 n).length + 1 + j - ((hiB 10 n).length + 1) = j by omega, show (hiB 10 n).length + 1 + j - (hiB 10 n).length = j + 1 by omega]
      rfl
theorem take_back (bs : List UInt8) (z k : Nat) (h : takeShort bs = (z, k, 0)) : k ≤ bs.length ∧ z < 18446744073709551616 ∧ shortB z = bs.take k := by
  have := takeGo_back bs 0 (by omega) z k (by rw [hiB_zero]; exact h)
  rw [hiB_zero] at this
  simp at this
  exact ⟨this.1, this.2.2.1, this.2.2.2⟩
theorem takeGo_bounds (bs : List UInt8) : ∀ i n, n < 18446744073709551616 → (takeGo i n bs).1 < 18446744073709551616 ∧ (takeGo i n bs).2.1 ≤ i + bs.length ∧ (takeGo i n bs).2.2 < 13 := by
  induction bs with
  | nil => intro i n _; simp [takeGo]
  | cons c bs ih =>
    intro i n hn
    rw [takeGo]
    split
    · simp
    split
    · simp
    split
    · simp; omega
    · have := ih (i + 1) (n * 128 + c.toNat % 128) (by omega)
      simp at this ⊢
      omega
end Go.Proofs.Ytlijfnekopjogaa.Num
