/- RecMaths: joined out of RecCod, RecMath. -/
import Derived.Test.YtlijfnekopjogaaSealMath2
import Derived.Test.YtlijfnekopjogaaRecMay9
/- Codecs: what is written and read in the same order, as plain data. -/
namespace Go.Proofs.Ytlijfnekopjogaa.Cd
open Go.Proofs.Ytlijfnekopjogaa
set_option linter.unusedVariables false
set_option linter.unusedSimpArgs false

/-! what a reader answers -/
def one (r : Sl.R) (most : Int) : Int := ((Sl.out r 0 (Sl.number r.b most).1 : Nat) : Int)
def next (r : Sl.R) (most : Int) : Sl.R := Sl.try_ r (Sl.number r.b most).2
def text (r : Sl.R) (most : Int) : List UInt8 := Sl.out r [] (Sl.textF r.b most).1
def textR (r : Sl.R) (most : Int) : Sl.R := Sl.try_ r (Sl.textF r.b most).2
def flag (r : Sl.R) : Bool := Sl.out r false (Sl.flagF r.b).1
def flagR (r : Sl.R) : Sl.R := Sl.try_ r (Sl.flagF r.b).2
theorem try_front (a rest : List UInt8) : Sl.try_ ⟨a ++ rest, 0⟩ (a.length, 0) = ⟨rest, 0⟩ := by
  unfold Sl.try_
  rw [if_neg (by simp), if_neg (by simp)]
  simp
theorem try_stuck (r : Sl.R) (x : Nat × Nat) (h : r.e ≠ 0) : (Sl.try_ r x).e = r.e := by unfold Sl.try_; rw [if_pos h]
theorem try_err (b : List UInt8) (x : Nat × Nat) (h : x.2 ≠ 0) : (Sl.try_ ⟨b, 0⟩ x).e = x.2 := by unfold Sl.try_; rw [if_neg (by simp), if_pos h]
theorem try_back {r : Sl.R} {x : Nat × Nat} (h : (Sl.try_ r x).e = 0) : r.e = 0 ∧ x.2 = 0 ∧ Sl.try_ r x = ⟨r.b.drop x.1, 0⟩ := by
  unfold Sl.try_ at h ⊢
  by_cases h1 : r.e ≠ 0
  · rw [if_pos h1] at h; exact absurd h h1
  · rw [if_neg h1] at h ⊢
    by_cases h2 : x.2 ≠ 0
    · rw [if_pos h2] at h; exact absurd h h2
    · rw [if_neg h2]
      exact ⟨by omega, by omega, rfl⟩
theorem try_le (r : Sl.R) (x : Nat × Nat) : (Sl.try_ r x).b.length ≤ r.b.length := by
  unfold Sl.try_
  split
  · exact Nat.le_refl _
  · split
    · exact Nat.le_refl _
    · simp
theorem out_ok {α : Type} {r : Sl.R} (h : r.e = 0) (z a : α) : Sl.out r z a = a := by unfold Sl.out; rw [if_neg (by omega)]
theorem one_bound (r : Sl.R) (most : Int) (h0 : 0 ≤ most) (h1 : most ≤ 1099511627776) : 0 ≤ one r most ∧ one r most ≤ most := by
  unfold one Sl.out
  split
  · simp; omega
  · refine ⟨by omega, ?_⟩
    unfold Sl.number
    split
    · simp only; omega
    · split
      · simp only; omega
      · omega
/-- A CODEC: what is written is read again; what is read has just the bytes that were gone through; a cut text is short. -/
structure Cod (α : Type) where
  enc : α → List UInt8
  dec : Sl.R → α × Sl.R
  fine : α → Prop
  there : ∀ a rest, fine a → dec ⟨enc a ++ rest, 0⟩ = (a, ⟨rest, 0⟩)
  back : ∀ r, (dec r).2.e = 0 → r.e = 0 ∧ enc (dec r).1 ++ (dec r).2.b = r.b
  short : ∀ a k, fine a → k < (enc a).length → (dec ⟨(enc a).take k, 0⟩).2.e = 10
  stuck : ∀ r, r.e ≠ 0 → (dec r).2.e = r.e
  le : ∀ r, (dec r).2.b.length ≤ r.b.length
def num (most : Int) (h2 : most ≤ 1099511627776) : Cod Int where
  enc := Sl.numB
  dec := fun r => (one r most, next r most)
  fine := fun x => 0 ≤ x ∧ x ≤ most
  there := by
    intro x rest ⟨h0, h1⟩
    obtain ⟨n, rfl⟩ := Int.eq_ofNat_of_zero_le h0
    have hn : Sl.number (Sl.numB (n : Int) ++ rest) most = (n, (Sl.numB (n : Int)).length, 0) := by
      rw [Sl.numB_nat']
      exact Sl.number_num n most rest h1 (by omega)
    unfold one next Sl.out Sl.try_
    simp only [hn]
    simp
  back := by
    intro r h
    show r.e = 0 ∧ Sl.numB (one r most) ++ (next r most).b = r.b
    have h : (next r most).e = 0 := h
    unfold next at h
    obtain ⟨h1, h2, h3⟩ := try_back h
    obtain ⟨b1, b2, b3, b4⟩ := Sl.number_back r.b most (Sl.number r.b most).1 (Sl.number r.b most).2.1 (by rw [← h2])
    refine ⟨h1, ?_⟩
    unfold next one
    rw [h3, out_ok h1, Sl.numB_nat', b3]
    simp
  short := by
    intro x k ⟨h0, h1⟩ hk
    obtain ⟨n, rfl⟩ := Int.eq_ofNat_of_zero_le h0
    rw [Sl.numB_nat'] at hk
    have ht := Num.take_cut n k (by omega) hk
    have hn : Sl.number ((Sl.numB (n : Int)).take k) most = (0, 0, 10) := by
      rw [Sl.numB_nat']
      unfold Sl.number
      rw [ht]
      simp
    show (next _ most).e = 10
    unfold next
    rw [show (⟨(Sl.numB (n : Int)).take k, 0⟩ : Sl.R).b = (Sl.numB (n : Int)).take k from rfl, hn]
    exact try_err _ _ (by simp)
  stuck := fun r h => try_stuck r _ h
  le := fun r => try_le r _
def flagC : Cod Bool where
  enc := fun x => [if x then 1 else 0]
  dec := fun r => (flag r, flagR r)
  fine := fun _ => True
  there := by
    intro x rest _
    cases x <;> simp [flag, flagR, Sl.flagF, Sl.out, Sl.try_]
  back := by
    intro r h
    have h : (flagR r).e = 0 := h
    show r.e = 0 ∧ [if flag r then 1 else 0] ++ (flagR r).b = r.b
    unfold flagR at h ⊢
    obtain ⟨h1, h2, h3⟩ := try_back h
    refine ⟨h1, ?_⟩
    rw [h3]
    unfold flag
    rw [out_ok h1]
    obtain ⟨b, e⟩ := r
    simp only at h2 ⊢
    cases b with
    | nil => simp [Sl.flagF] at h2
    | cons a t =>
      have h4 : ¬ 1 < ((a :: t).getD 0 0).toNat := fun h4 => by
        unfold Sl.flagF at h2
        rw [if_neg (by simp), if_pos h4] at h2
        simp at h2
      have hF : Sl.flagF (a :: t) = (decide (a.toNat = 1), 1, 0) := by
        unfold Sl.flagF
        rw [if_neg (by simp), if_neg h4]
        rfl
      rw [hF]
      have h6 : ¬ 1 < a.toNat := h4
      have h5 : a.toNat = 0 ∨ a.toNat = 1 := by omega
      rcases h5 with h5 | h5
      · have : a = 0 := UInt8.toNat_inj.1 h5
        subst this
        rfl
      · have : a = 1 := UInt8.toNat_inj.1 h5
        subst this
        rfl
  short := by
    intro x k _ hk
    have hk : k < 1 := hk
    obtain rfl : k = 0 := by omega
    rfl
  stuck := fun r h => try_stuck r _ h
  le := fun r => try_le r _
def textC (most : Int) (h2 : most ≤ 1000) : Cod (List UInt8) where
  enc := Sl.textB
  dec := fun r => (text r most, textR r most)
  fine := fun s => (s.length : Int) ≤ most
  there := by
    intro s rest hm
    have hF := Sl.textF_text s rest most hm (by omega)
    show (text _ most, textR _ most) = _
    unfold text textR
    rw [show (⟨Sl.textB s ++ rest, 0⟩ : Sl.R).b = Sl.textB s ++ rest from rfl, hF, try_front]
    rfl
  back := by
    intro r h
    have h : (textR r most).e = 0 := h
    show r.e = 0 ∧ Sl.textB (text r most) ++ (textR r most).b = r.b
    unfold textR at h ⊢
    obtain ⟨h1, h2, h3⟩ := try_back h
    refine ⟨h1, ?_⟩
    rw [h3]
    unfold text
    rw [out_ok h1]
    obtain ⟨_, h4, _⟩ := Sl.textF_back r.b most (Sl.textF r.b most).1 (Sl.textF r.b most).2.1 (by rw [← h2])
    rw [h4, List.take_append_drop]
  short := by
    intro s k hm hk
    show (textR _ most).e = 10
    unfold textR
    have hF : (Sl.textF ((Sl.textB s).take k) most).2.2 = 10 := by
      have hl : s.length < 18446744073709551616 := by omega
      have hk : k < (Sl.textB s).length := hk
      unfold Sl.textF
      by_cases hc : k < (Sl.numB s.length).length
      · have hn : Sl.number ((Sl.textB s).take k) most = (0, 0, 10) := by
          rw [Sl.textB, List.take_append_of_le_length (by omega), Sl.numB_nat']
          rw [Sl.numB_nat'] at hc
          unfold Sl.number
          rw [Num.take_cut s.length k (by omega) hc]
          simp
        rw [hn]
        simp
      · have hn : Sl.number ((Sl.textB s).take k) most = (s.length, (Sl.numB s.length).length, 0) := by
          rw [Sl.textB, List.take_append, List.take_of_length_le (by omega), Sl.numB_nat']
          exact Sl.number_num s.length most _ hm (by omega)
        rw [hn, if_neg (by simp), if_pos]
        rw [Sl.textB, List.length_append] at hk
        rw [List.length_take, Sl.textB, List.length_append]
        simp only
        omega
    rw [try_err _ _ (by rw [show (⟨(Sl.textB s).take k, 0⟩ : Sl.R).b = (Sl.textB s).take k from rfl, hF]; decide)]
    exact hF
  stuck := fun r h => try_stuck r _ h
  le := fun r => try_le r _
/-- one behind the other -/
def pair {α β : Type} (A : Cod α) (B : Cod β) : Cod (α × β) where
  enc := fun x => A.enc x.1 ++ B.enc x.2
  dec := fun r => (((A.dec r).1, (B.dec (A.dec r).2).1), (B.dec (A.dec r).2).2)
  fine := fun x => A.fine x.1 ∧ B.fine x.2
  there := by
    intro x rest ⟨h1, h2⟩
    rw [List.append_assoc, A.there _ _ h1]
    simp only
    rw [B.there _ _ h2]
  back := by
    intro r h
    obtain ⟨h1, h2⟩ := B.back _ h
    obtain ⟨h3, h4⟩ := A.back _ h1
    exact ⟨h3, by simp only; rw [List.append_assoc, h2, h4]⟩
  short := by
    intro x k ⟨h1, h2⟩ hk
    rw [List.length_append] at hk
    by_cases hc : k < (A.enc x.1).length
    · rw [List.take_append_of_le_length (by omega)]
      have := A.short x.1 k h1 hc
      rw [B.stuck _ (by rw [this]; decide), this]
    · rw [List.take_append, List.take_of_length_le (by omega), A.there _ _ h1]
      exact B.short x.2 _ h2 (by omega)
  stuck := by
    intro r h
    have h1 := A.stuck r h
    rw [B.stuck _ (by rw [h1]; exact h), h1]
  le := fun r => Nat.le_trans (B.le _) (A.le r)
/-- the same things otherwise told -/
def map {α β : Type} (A : Cod α) (f : α → β) (g : β → α) (hfg : ∀ a, g (f a) = a) (fine : β → Prop) (hf : ∀ b, fine b → A.fine (g b) ∧ f (g b) = b) : Cod β where
  enc := fun b => A.enc (g b)
  dec := fun r => (f (A.dec r).1, (A.dec r).2)
  fine := fine
  there := by
    intro b rest h
    obtain ⟨h1, h2⟩ := hf b h
    rw [A.there _ _ h1]
    simp only [h2]
  back := by
    intro r h
    obtain ⟨h1, h2⟩ := A.back r h
    exact ⟨h1, by simp only [hfg]; exact h2⟩
  short := fun b k h hk => A.short _ k (hf b h).1 hk
  stuck := fun r h => A.stuck r h
  le := fun r => A.le r
/-- some things, one behind the other -/
def many {α : Type} (A : Cod α) (r : Sl.R) : Nat → List α × Sl.R
  | 0 => ([], r)
  | k + 1 => ((many A r k).1 ++ [(A.dec (many A r k).2).1], (A.dec (many A r k).2).2)
theorem many_length {α : Type} (A : Cod α) (r : Sl.R) : ∀ k, (many A r k).1.length = k
  | 0 => rfl
  | k + 1 => by rw [many, List.length_append, many_length A r k]; rfl
theorem many_le {α : Type} (A : Cod α) (r : Sl.R) : ∀ k, (many A r k).2.b.length ≤ r.b.length
  | 0 => Nat.le_refl _
  | k + 1 => Nat.le_trans (A.le _) (many_le A r k)
theorem many_stuck {α : Type} (A : Cod α) (r : Sl.R) (j : Nat) (h : (many A r j).2.e ≠ 0) : ∀ k, j ≤ k → (many A r k).2.e = (many A r j).2.e := by
  intro k hk
  induction k with
  | zero => obtain rfl : j = 0 := by omega
            rfl
  | succ k ih =>
    by_cases e : j = k + 1
    · subst e; rfl
    · have := ih (by omega)
      show (A.dec (many A r k).2).2.e = _
      rw [A.stuck _ (by rw [this]; exact h), this]
def flat {α : Type} (A : Cod α) (l : List α) : List UInt8 := l.flatMap A.enc
theorem flat_cons {α : Type} (A : Cod α) (a : α) (l : List α) : flat A (a :: l) = A.enc a ++ flat A l := by simp [flat]
theorem flat_append {α : Type} (A : Cod α) (a b : List α) : flat A (a ++ b) = flat A a ++ flat A b := by simp [flat]
theorem many_there {α : Type} (A : Cod α) (l : List α) (h : ∀ a ∈ l, A.fine a) (rest : List UInt8) : ∀ k, k ≤ l.length → many A ⟨flat A l ++ rest, 0⟩ k = (l.take k, ⟨flat A (l.drop k) ++ rest, 0⟩) := by
  intro k
  induction k with
  | zero => intro _; rfl
  | succ k ih =>
    intro hk
    rw [many, ih (by omega)]
    have hd : l.drop k = l[k] :: l.drop (k + 1) := List.drop_eq_getElem_cons (by omega)
    simp only
    rw [hd, flat_cons, List.append_assoc, A.there _ _ (h _ (List.getElem_mem _)), List.take_succ_eq_append_getElem (by omega)]
theorem many_back {α : Type} (A : Cod α) (r : Sl.R) : ∀ k, (many A r k).2.e = 0 → r.e = 0 ∧ flat A (many A r k).1 ++ (many A r k).2.b = r.b
  | 0, h => ⟨h, rfl⟩
  | k + 1, h => by
    obtain ⟨h1, h2⟩ := A.back _ h
    obtain ⟨h3, h4⟩ := many_back A r k h1
    refine ⟨h3, ?_⟩
    rw [many, flat_append, List.append_assoc]
    simp only
    rw [show flat A [(A.dec (many A r k).2).1] = A.enc (A.dec (many A r k).2).1 by simp [flat], h2, h4]
theorem many_front {α : Type} (A : Cod α) (r : Sl.R) : ∀ k, many A r (k + 1) = ((A.dec r).1 :: (many A (A.dec r).2 k).1, (many A (A.dec r).2 k).2)
  | 0 => rfl
  | k + 1 => by
    rw [many, many_front A r k]
    rfl
theorem many_short {α : Type} (A : Cod α) : ∀ (l : List α) (k : Nat), (∀ a ∈ l, A.fine a) → k < (flat A l).length → (many A ⟨(flat A l).take k, 0⟩ l.length).2.e = 10
  | [], k, _, hk => by simp [flat] at hk
  | a :: l, k, hl, hk => by
    rw [flat_cons, List.length_append] at hk
    rw [List.length_cons, many_front, flat_cons]
    simp only
    by_cases hc : k < (A.enc a).length
    · rw [List.take_append_of_le_length (by omega)]
      have h1 := A.short a k (hl a (List.mem_cons_self ..)) hc
      have h2 := many_stuck A (A.dec ⟨(A.enc a).take k, 0⟩).2 0 (by show (A.dec ⟨(A.enc a).take k, 0⟩).2.e ≠ 0; rw [h1]; decide) l.length (Nat.zero_le _)
      rw [h2]
      exact h1
    · rw [List.take_append, List.take_of_length_le (by omega), A.there _ _ (hl a (List.mem_cons_self ..))]
      exact many_short A l _ (fun x hx => hl x (List.mem_cons_of_mem _ hx)) (by omega)
/-- a list: how many, and they -/
def list {α : Type} (A : Cod α) (most : Nat) (hm : most ≤ 1000) : Cod (List α) where
  enc := fun l => Sl.numB (l.length : Int) ++ flat A l
  dec := fun r => many A (next r most) (one r most).toNat
  fine := fun l => l.length ≤ most ∧ ∀ a ∈ l, A.fine a
  there := by
    intro l rest ⟨h1, h2⟩
    have hn := (num most (by omega)).there (l.length : Int) (flat A l ++ rest) ⟨by omega, by omega⟩
    simp only [num, Prod.mk.injEq] at hn
    rw [List.append_assoc, hn.1, hn.2, Int.toNat_natCast, many_there A l h2 rest l.length (Nat.le_refl _), List.take_length, List.drop_length]
    rfl
  back := by
    intro r h
    obtain ⟨h1, h2⟩ := many_back A _ _ h
    obtain ⟨h3, h4⟩ := (num most (by omega)).back r h1
    simp only [num] at h4
    refine ⟨h3, ?_⟩
    have hb := one_bound r most (by omega) (by omega)
    rw [many_length, Int.toNat_of_nonneg hb.1, List.append_assoc, h2, h4]
  short := by
    intro l k ⟨h1, h2⟩ hk
    rw [List.length_append] at hk
    by_cases hc : k < (Sl.numB (l.length : Int)).length
    · rw [List.take_append_of_le_length (by omega)]
      have h3 := (num most (by omega)).short (l.length : Int) k ⟨by omega, by omega⟩ hc
      simp only [num] at h3
      have h4 := many_stuck A (next ⟨(Sl.numB (l.length : Int)).take k, 0⟩ most) 0 (by show (next _ _).e ≠ 0; rw [h3]; decide) (one ⟨(Sl.numB (l.length : Int)).take k, 0⟩ most).toNat (Nat.zero_le _)
      rw [h4]
      exact h3
    · rw [List.take_append, List.take_of_length_le (by omega)]
      have hn := (num most (by omega)).there (l.length : Int) ((flat A l).take (k - (Sl.numB (l.length : Int)).length)) ⟨by omega, by omega⟩
      simp only [num, Prod.mk.injEq] at hn
      rw [hn.1, hn.2, Int.toNat_natCast]
      exact many_short A l _ h2 (by omega)
  stuck := by
    intro r h
    have h1 := (num most (by omega)).stuck r h
    simp only [num] at h1
    have h2 := many_stuck A (next r most) 0 (by show (next _ _).e ≠ 0; rw [h1]; exact h) (one r most).toNat (Nat.zero_le _)
    rw [h2]
    exact h1
  le := fun r => Nat.le_trans (many_le A _ _) (try_le r _)
/-- nothing -/
def none_ : Cod Unit where
  enc := fun _ => []
  dec := fun r => ((), r)
  fine := fun _ => True
  there := fun _ _ _ => rfl
  back := fun r h => ⟨h, rfl⟩
  short := fun _ k _ hk => absurd hk (by simp)
  stuck := fun r _ => rfl
  le := fun r => Nat.le_refl _
/-! something behind a flag -/
def optE {α : Type} (A : Cod α) : Bool × α → List UInt8
  | (true, a) => [1] ++ A.enc a
  | (false, _) => [0]
def optD {α : Type} (A : Cod α) (z : α) (r : Sl.R) : (Bool × α) × Sl.R := match flag r with
  | true => ((true, (A.dec (flagR r)).1), (A.dec (flagR r)).2)
  | false => ((false, z), flagR r)
theorem optD_true {α : Type} {A : Cod α} {z : α} {r : Sl.R} (h : flag r = true) : optD A z r = ((true, (A.dec (flagR r)).1), (A.dec (flagR r)).2) := by unfold optD; rw [h]
theorem optD_false {α : Type} {A : Cod α} {z : α} {r : Sl.R} (h : flag r = false) : optD A z r = ((false, z), flagR r) := by unfold optD; rw [h]
theorem flag_one (rest : List UInt8) : flag ⟨[1] ++ rest, 0⟩ = true ∧ flagR ⟨[1] ++ rest, 0⟩ = ⟨rest, 0⟩ := by
  have h := flagC.there true rest trivial
  have e : flagC.enc true = [1] := rfl
  rw [e] at h
  have h2 : (flag ⟨[1] ++ rest, 0⟩, flagR ⟨[1] ++ rest, 0⟩) = (true, ⟨rest, 0⟩) := h
  injection h2 with h3 h4
  exact ⟨h3, h4⟩
theorem flag_nought (rest : List UInt8) : flag ⟨[0] ++ rest, 0⟩ = false ∧ flagR ⟨[0] ++ rest, 0⟩ = ⟨rest, 0⟩ := by
  have h := flagC.there false rest trivial
  have e : flagC.enc false = [0] := rfl
  rw [e] at h
  have h2 : (flag ⟨[0] ++ rest, 0⟩, flagR ⟨[0] ++ rest, 0⟩) = (false, ⟨rest, 0⟩) := h
  injection h2 with h3 h4
  exact ⟨h3, h4⟩
theorem flag_back {r : Sl.R} (h : (flagR r).e = 0) : r.e = 0 ∧ (if flag r then [1] else [0]) ++ (flagR r).b = r.b := by
  obtain ⟨h1, h2⟩ := flagC.back r h
  refine ⟨h1, ?_⟩
  have h2 : [if flag r then 1 else 0] ++ (flagR r).b = r.b := h2
  cases hf : flag r <;> rw [hf] at h2 <;> exact h2
def opt {α : Type} (A : Cod α) (z : α) : Cod (Bool × α) where
  enc := optE A
  dec := optD A z
  fine := fun x => x.1 = true ∧ A.fine x.2 ∨ x.1 = false ∧ x.2 = z
  there := by
    intro x rest h
    obtain ⟨b, a⟩ := x
    simp only at h
    rcases h with ⟨rfl, h⟩ | ⟨rfl, rfl⟩
    · show optD A z ⟨[1] ++ A.enc a ++ rest, 0⟩ = _
      rw [List.append_assoc]
      obtain ⟨h1, h2⟩ := flag_one (A.enc a ++ rest)
      rw [optD_true h1, h2, A.there _ _ h]
    · show optD A a ⟨[0] ++ rest, 0⟩ = _
      obtain ⟨h1, h2⟩ := flag_nought rest
      rw [optD_false h1, h2]
  back := by
    intro r h
    cases hb : flag r with
    | true =>
      rw [optD_true hb] at h ⊢
      obtain ⟨h1, h2⟩ := A.back _ h
      obtain ⟨h3, h4⟩ := flag_back h1
      rw [hb, if_pos rfl] at h4
      refine ⟨h3, ?_⟩
      show [1] ++ A.enc _ ++ _ = _
      rw [List.append_assoc, h2, h4]
    | false =>
      rw [optD_false hb] at h ⊢
      obtain ⟨h3, h4⟩ := flag_back h
      rw [hb, if_neg (by decide)] at h4
      exact ⟨h3, h4⟩
  short := by
    intro x k h hk
    obtain ⟨b, a⟩ := x
    simp only at h
    rcases h with ⟨rfl, h⟩ | ⟨rfl, rfl⟩
    · have hk : k < ([1] ++ A.enc a).length := hk
      show (optD A z ⟨([1] ++ A.enc a).take k, 0⟩).2.e = 10
      cases k with
      | zero => rfl
      | succ k =>
        have hk2 : k < (A.enc a).length := by simpa using hk
        have e : ([1] ++ A.enc a).take (k + 1) = [1] ++ (A.enc a).take k := rfl
        obtain ⟨h1, h2⟩ := flag_one ((A.enc a).take k)
        rw [e, optD_true h1, h2]
        exact A.short a k h hk2
    · have hk : k < 1 := hk
      obtain rfl : k = 0 := by omega
      rfl
  stuck := by
    intro r h
    have hb : flag r = false := by unfold flag Sl.out; rw [if_pos h]
    rw [optD_false hb]
    exact try_stuck r _ h
  le := by
    intro r
    cases hb : flag r with
    | true => rw [optD_true hb]; exact Nat.le_trans (A.le _) (try_le r _)
    | false => rw [optD_false hb]; exact try_le r _
end Go.Proofs.Ytlijfnekopjogaa.Cd

/- A log record as plain data: which may be, its bytes, there and back. -/
namespace Go.Proofs.Ytlijfnekopjogaa.Rc
open Go.Proofs.Ytlijfnekopjogaa
set_option linter.unusedVariables false
set_option linter.unusedSimpArgs false

structure V where
  has : Bool
  data : ByteArray
structure L where
  key : ByteArray
  x : Bool
structure Rw where
  tx : Int
  st : Int
  fi : Int
  la : Int
  un : Int
  co : Int
  mem : List Int
  locks : List L
structure D where
  page : Int
  rc : Int
structure De where
  tx : Int
  mem : List Int
structure M where
  kind : Int
  tx : Int
  prev : Int
  nxt : Int
  key : ByteArray
  old : V
  new : V
  coord : Int
  mem : List Int
  locks : List L
  rows : List Rw
  dirty : List D
  deeds : List De
  past : List Int
def V.zero : V := ⟨false, ⟨#[]⟩⟩
def L.zero : L := ⟨⟨#[]⟩, false⟩
def Rw.zero : Rw := ⟨0, 0, 0, 0, 0, 0, [], []⟩
def D.zero : D := ⟨0, 0⟩
def De.zero : De := ⟨0, []⟩
def M.zero : M := ⟨0, 0, 0, 0, ⟨#[]⟩, V.zero, V.zero, 0, [], [], [], [], [], []⟩

/-! which may be -/
def keyOk (k : ByteArray) : Bool := !k.toList.isEmpty && decide (k.size ≤ 16)
def valOk (v : V) : Bool := decide (v.data.size ≤ 32) && (v.has || v.data.toList.isEmpty)
/-- the k-th of a list that rises -/
def at_ {α : Type} (z : α) (ok : α → Bool) (lt : α → α → Bool) (l : List α) (k : Nat) : Bool := ok (l.getD k z) && (decide (k = 0) || lt (l.getD (k - 1) z) (l.getD k z))
def ups {α : Type} (z : α) (ok : α → Bool) (lt : α → α → Bool) (l : List α) : Bool := (List.range l.length).all (at_ z ok lt l)
def rising {α : Type} (z : α) (most : Nat) (ok : α → Bool) (lt : α → α → Bool) (l : List α) : Bool := decide (l.length ≤ most) && ups z ok lt l
theorem ups_true {α : Type} {z : α} {ok : α → Bool} {lt : α → α → Bool} {l : List α} (h : ∀ k, k < l.length → at_ z ok lt l k = true) : ups z ok lt l = true := by
  unfold ups; rw [List.all_eq_true]; intro k hk; exact h k (List.mem_range.1 hk)
theorem ups_false {α : Type} {z : α} {ok : α → Bool} {lt : α → α → Bool} {l : List α} {k : Nat} (hk : k < l.length) (h : at_ z ok lt l k = false) : ups z ok lt l = false := by
  unfold ups; rw [List.all_eq_false]; exact ⟨k, List.mem_range.2 hk, by rw [h]; simp⟩
theorem rising_all {α : Type} {z : α} {most : Nat} {ok : α → Bool} {lt : α → α → Bool} {l : List α} (h : rising z most ok lt l = true) : l.length ≤ most ∧ ∀ a ∈ l, ok a = true := by
  unfold rising ups at h
  rw [Bool.and_eq_true, decide_eq_true_eq, List.all_eq_true] at h
  refine ⟨h.1, fun a ha => ?_⟩
  obtain ⟨k, hk, rfl⟩ := List.getElem_of_mem ha
  have h2 := h.2 k (List.mem_range.2 hk)
  unfold at_ at h2
  rw [Bool.and_eq_true] at h2
  rw [List.getD_eq_getElem?_getD, List.getElem?_eq_getElem hk] at h2
  exact h2.1
def lt (a b : ByteArray) : Bool := Op.bytesLess a.toList b.toList
def locks (l : List L) : Bool := rising L.zero 64 (fun x => keyOk x.key) (fun a b => lt a.key b.key) l
def rowOk (x : Rw) : Bool := seq x.tx 1 && decide (1 ≤ x.st) && decide (x.st ≤ 4) && seq x.fi 0 && seq x.la 0 && seq x.un 0 && node x.co && members x.mem && locks x.locks
def rows (l : List Rw) : Bool := rising Rw.zero 64 rowOk (fun a b => decide (a.tx < b.tx)) l
def dirtyOk (d : D) : Bool := decide (0 ≤ d.page) && decide (d.page < 64) && seq d.rc 1
def dirty (l : List D) : Bool := rising D.zero 64 dirtyOk (fun a b => decide (a.page < b.page)) l
def deedOk (d : De) : Bool := seq d.tx 1 && members d.mem
def deeds (l : List De) : Bool := rising De.zero 64 deedOk (fun a b => decide (a.tx < b.tx)) l
def past (l : List Int) : Bool := rising 0 256 (fun n => seq n 1) (fun a b => decide (a < b)) l
def check (m : M) : Bool := rows m.rows && dirty m.dirty && deeds m.deeds && past m.past
def kindOk (k : Int) : Bool := decide (1 ≤ k) && decide (k ≤ 10)
structure Bare where
  prev : Bool
  next : Bool
  key : Bool
  old : Bool
  new : Bool
  coord : Bool
  members : Bool
  locks : Bool
  lists : Bool
def wants (k : Int) : Bare :=
  if k = 1 then ⟨false, true, false, false, false, true, true, true, true⟩
  else if k = 2 then ⟨false, false, false, true, false, true, true, true, true⟩
  else if k = 3 then ⟨false, true, true, true, true, false, false, false, true⟩
  else if k = 4 ∨ k = 5 ∨ k = 6 then ⟨false, true, true, true, true, true, true, true, true⟩
  else if k = 8 then ⟨true, true, true, true, true, true, true, true, false⟩
  else if k = 9 then ⟨true, true, true, true, true, true, false, true, true⟩
  else ⟨true, true, true, true, true, true, true, true, true⟩
def V.none_ (v : V) : Bool := !v.has && v.data.toList.isEmpty
def spare (m : M) : Bool :=
  (wants m.kind).prev && !decide (m.prev = 0) || (wants m.kind).next && !decide (m.nxt = 0) || (wants m.kind).key && !m.key.toList.isEmpty
  || (wants m.kind).old && !m.old.none_ || (wants m.kind).new && !m.new.none_ || (wants m.kind).coord && !decide (m.coord = 0)
  || (wants m.kind).members && !decide (m.mem.length = 0) || (wants m.kind).locks && !decide (m.locks.length = 0)
  || (wants m.kind).lists && !decide (m.rows.length + m.dirty.length + m.deeds.length + m.past.length = 0)
def rest (m : M) : Bool := seq m.tx 1 && seq m.prev 0 && seq m.nxt 0 && node m.coord && members m.mem && locks m.locks
def may (m : M) : Bool :=
  kindOk m.kind && !spare m &&
  (if m.kind = 7 ∨ m.kind = 8 then decide (m.tx = 0) && check m
   else if m.kind = 1 ∨ m.kind = 2 then keyOk m.key && valOk m.old && valOk m.new && rest m
   else rest m)

/-! the bytes -/
def nC : Cd.Cod Int := Cd.num 1099511627776 (Int.le_refl _)
def tC : Cd.Cod ByteArray := Cd.map (Cd.textC 32 (by decide)) (fun l => ⟨l.toArray⟩) (fun s => s.data.toList) (fun _ => rfl) (fun s => s.size ≤ 32) (fun s h => ⟨by
  show ((s.data.toList.length : Nat) : Int) ≤ 32
  rw [Array.length_toList]
  have : s.data.size ≤ 32 := h
  omega, rfl⟩)
def vC : Cd.Cod V := Cd.map (Cd.opt tC ⟨#[]⟩) (fun x => ⟨x.1, x.2⟩) (fun v => (v.has, v.data)) (fun _ => rfl) (fun v => v.has = true ∧ v.data.size ≤ 32 ∨ v.has = false ∧ v.data = ⟨#[]⟩) (fun v h => ⟨h, rfl⟩)
def iC : Cd.Cod (List Int) := Cd.list nC 256 (by decide)
def lC : Cd.Cod L := Cd.map (Cd.pair tC Cd.flagC) (fun x => ⟨x.1, x.2⟩) (fun v => (v.key, v.x)) (fun _ => rfl) (fun v => v.key.size ≤ 32) (fun v h => ⟨⟨h, trivial⟩, rfl⟩)
def lsC : Cd.Cod (List L) := Cd.list lC 256 (by decide)
/-- a codec of however many things, told as a record -/
def as_ {α β : Type} (A : Cd.Cod α) (f : α → β) (g : β → α) (hfg : ∀ a, g (f a) = a) : Cd.Cod β := Cd.map A f g hfg (fun b => A.fine (g b) ∧ f (g b) = b) (fun _ h => h)
def rwC : Cd.Cod Rw := as_ (Cd.pair nC (Cd.pair nC (Cd.pair nC (Cd.pair nC (Cd.pair nC (Cd.pair nC (Cd.pair iC lsC)))))))
  (fun x => ⟨x.1, x.2.1, x.2.2.1, x.2.2.2.1, x.2.2.2.2.1, x.2.2.2.2.2.1, x.2.2.2.2.2.2.1, x.2.2.2.2.2.2.2⟩) (fun r => (r.tx, r.st, r.fi, r.la, r.un, r.co, r.mem, r.locks)) (fun _ => rfl)
def dC : Cd.Cod D := as_ (Cd.pair nC nC) (fun x => ⟨x.1, x.2⟩) (fun d => (d.page, d.rc)) (fun _ => rfl)
def deC : Cd.Cod De := as_ (Cd.pair nC iC) (fun x => ⟨x.1, x.2⟩) (fun d => (d.tx, d.mem)) (fun _ => rfl)
def rwsC : Cd.Cod (List Rw) := Cd.list rwC 256 (by decide)
def dsC : Cd.Cod (List D) := Cd.list dC 256 (by decide)
def desC : Cd.Cod (List De) := Cd.list deC 256 (by decide)
def updC : Cd.Cod M := as_ (Cd.pair nC (Cd.pair nC (Cd.pair tC (Cd.pair vC vC))))
  (fun x => { M.zero with kind := 1, tx := x.1, prev := x.2.1, key := x.2.2.1, old := x.2.2.2.1, new := x.2.2.2.2 }) (fun m => (m.tx, m.prev, m.key, m.old, m.new)) (fun _ => rfl)
def clrC : Cd.Cod M := as_ (Cd.pair nC (Cd.pair nC (Cd.pair nC (Cd.pair tC vC))))
  (fun x => { M.zero with kind := 2, tx := x.1, prev := x.2.1, nxt := x.2.2.1, key := x.2.2.2.1, new := x.2.2.2.2 }) (fun m => (m.tx, m.prev, m.nxt, m.key, m.new)) (fun _ => rfl)
def prepC : Cd.Cod M := as_ (Cd.pair nC (Cd.pair nC (Cd.pair nC (Cd.pair iC lsC))))
  (fun x => { M.zero with kind := 3, tx := x.1, prev := x.2.1, coord := x.2.2.1, mem := x.2.2.2.1, locks := x.2.2.2.2 }) (fun m => (m.tx, m.prev, m.coord, m.mem, m.locks)) (fun _ => rfl)
def endC (k : Int) : Cd.Cod M := as_ (Cd.pair nC nC) (fun x => { M.zero with kind := k, tx := x.1, prev := x.2 }) (fun m => (m.tx, m.prev)) (fun _ => rfl)
def chkC : Cd.Cod M := as_ (Cd.pair rwsC (Cd.pair dsC (Cd.pair desC iC)))
  (fun x => { M.zero with kind := 8, rows := x.1, dirty := x.2.1, deeds := x.2.2.1, past := x.2.2.2 }) (fun m => (m.rows, m.dirty, m.deeds, m.past)) (fun _ => rfl)
def decC : Cd.Cod M := as_ (Cd.pair nC iC) (fun x => { M.zero with kind := 9, tx := x.1, mem := x.2 }) (fun m => (m.tx, m.mem)) (fun _ => rfl)
def forC : Cd.Cod M := as_ nC (fun x => { M.zero with kind := 10, tx := x }) (fun m => m.tx) (fun _ => rfl)
def noC (k : Int) : Cd.Cod M := as_ Cd.none_ (fun _ => { M.zero with kind := k }) (fun _ => ()) (fun _ => rfl)
/-- the fields of a kind -/
def fC (k : Int) : Cd.Cod M :=
  if k = 1 then updC else if k = 2 then clrC else if k = 3 then prepC else if k = 4 ∨ k = 5 ∨ k = 6 then endC k
  else if k = 8 then chkC else if k = 9 then decC else if k = 10 then forC else noC k
def body (m : M) : List UInt8 := Sl.numB m.kind ++ (fC m.kind).enc m
def enc (m : M) : List UInt8 × Nat := if may m then (if 4096 < (body m).length then ([], 12) else (body m, 0)) else ([], 1)
/-- the end: nothing may stand behind it -/
def endE (r : Sl.R) : Nat := (Sl.try_ r (Sl.endF r.b)).e
def decF (k : Int) (r : Sl.R) : M × Nat :=
  if endE ((fC k).dec r).2 ≠ 0 then (M.zero, endE ((fC k).dec r).2) else if may ((fC k).dec r).1 then (((fC k).dec r).1, 0) else (M.zero, 11)
def decR (r : Sl.R) : M × Nat :=
  if (nC.dec r).2.e = 0 ∧ kindOk (nC.dec r).1 = false then (M.zero, 11) else decF (nC.dec r).1 (nC.dec r).2
def dec (b : List UInt8) : M × Nat := if 4096 < b.length then (M.zero, 12) else decR ⟨b, 0⟩

/-! there and back -/
theorem empty_of {s : ByteArray} (h : s.toList.isEmpty = true) : s = ⟨#[]⟩ := by
  rw [ByteArray.toList_eq] at h
  obtain ⟨d⟩ := s
  have h2 : d.toList = [] := by simpa using h
  have h3 : d = #[] := by rw [← Array.toList_eq_nil_iff]; exact h2
  rw [h3]
theorem key_small {s : ByteArray} (h : keyOk s = true) : s.size ≤ 16 := by
  unfold keyOk at h
  rw [Bool.and_eq_true, decide_eq_true_eq] at h
  exact h.2
theorem val_fine {v : V} (h : valOk v = true) : vC.fine v := by
  unfold valOk at h
  rw [Bool.and_eq_true, decide_eq_true_eq, Bool.or_eq_true] at h
  obtain ⟨has, data⟩ := v
  cases has with
  | true => exact .inl ⟨rfl, h.1⟩
  | false => exact .inr ⟨rfl, empty_of (by simpa using h.2)⟩
theorem none_zero {v : V} (h : v.none_ = true) : v = V.zero := by
  unfold V.none_ at h
  obtain ⟨has, data⟩ := v
  rw [Bool.and_eq_true] at h
  have h1 : has = false := by simpa using h.1
  have h2 : data = ⟨#[]⟩ := empty_of h.2
  rw [h1, h2]; rfl
theorem zero_fine : vC.fine V.zero := .inr ⟨rfl, rfl⟩
theorem seq_fine {n least : Int} (h : seq n least = true) (h0 : 0 ≤ least) : nC.fine n := by
  unfold seq at h
  rw [Bool.and_eq_true, decide_eq_true_eq, decide_eq_true_eq] at h
  exact ⟨by omega, h.2⟩
theorem node_fine {n : Int} (h : node n = true) : nC.fine n := by
  unfold node at h
  rw [Bool.and_eq_true, decide_eq_true_eq, decide_eq_true_eq] at h
  exact ⟨h.1, by omega⟩
theorem mem_fine {l : List Int} (h : members l = true) : iC.fine l := by
  unfold members up at h
  rw [Bool.and_eq_true, decide_eq_true_eq, List.all_eq_true] at h
  refine ⟨by omega, fun a ha => ?_⟩
  obtain ⟨k, hk, rfl⟩ := List.getElem_of_mem ha
  have h2 := h.2 k (List.mem_range.2 hk)
  unfold okAt at h2
  rw [Bool.and_eq_true] at h2
  rw [List.getD_eq_getElem?_getD, List.getElem?_eq_getElem hk] at h2
  exact node_fine h2.1
theorem locks_fine {l : List L} (h : locks l = true) : lsC.fine l := by
  obtain ⟨h1, h2⟩ := rising_all h
  exact ⟨by omega, fun a ha => by have := key_small (h2 a ha); show a.key.size ≤ 32; omega⟩
theorem row_fine {x : Rw} (h : rowOk x = true) : rwC.fine x := by
  unfold rowOk at h
  simp only [Bool.and_eq_true, decide_eq_true_eq] at h
  obtain ⟨⟨⟨⟨⟨⟨⟨⟨h1, h2⟩, h3⟩, h4⟩, h5⟩, h6⟩, h7⟩, h8⟩, h9⟩ := h
  exact ⟨⟨seq_fine h1 (by omega), ⟨by show (0 : Int) ≤ x.st; omega, by show x.st ≤ 1099511627776; omega⟩, seq_fine h4 (by omega), seq_fine h5 (by omega), seq_fine h6 (by omega), node_fine h7, mem_fine h8, locks_fine h9⟩, rfl⟩
theorem dirty_fine {x : D} (h : dirtyOk x = true) : dC.fine x := by
  unfold dirtyOk at h
  simp only [Bool.and_eq_true, decide_eq_true_eq] at h
  exact ⟨⟨⟨h.1.1, by show x.page ≤ 1099511627776; omega⟩, seq_fine h.2 (by omega)⟩, rfl⟩
theorem deed_fine {x : De} (h : deedOk x = true) : deC.fine x := by
  unfold deedOk at h
  simp only [Bool.and_eq_true] at h
  exact ⟨⟨seq_fine h.1 (by omega), mem_fine h.2⟩, rfl⟩
theorem rows_fine {l : List Rw} (h : rows l = true) : rwsC.fine l := by
  obtain ⟨h1, h2⟩ := rising_all h
  exact ⟨by omega, fun a ha => row_fine (h2 a ha)⟩
theorem dirtys_fine {l : List D} (h : dirty l = true) : dsC.fine l := by
  obtain ⟨h1, h2⟩ := rising_all h
  exact ⟨by omega, fun a ha => dirty_fine (h2 a ha)⟩
theorem deeds_fine {l : List De} (h : deeds l = true) : desC.fine l := by
  obtain ⟨h1, h2⟩ := rising_all h
  exact ⟨by omega, fun a ha => deed_fine (h2 a ha)⟩
theorem past_fine {l : List Int} (h : past l = true) : iC.fine l := by
  obtain ⟨h1, h2⟩ := rising_all h
  exact ⟨h1, fun a ha => seq_fine (h2 a ha) (by omega)⟩
/-- what stands in none of its other fields -/
theorem spare_parts {m : M} (h : spare m = false) :
    ((wants m.kind).prev = true → m.prev = 0) ∧ ((wants m.kind).next = true → m.nxt = 0) ∧ ((wants m.kind).key = true → m.key = ⟨#[]⟩)
    ∧ ((wants m.kind).old = true → m.old = V.zero) ∧ ((wants m.kind).new = true → m.new = V.zero) ∧ ((wants m.kind).coord = true → m.coord = 0)
    ∧ ((wants m.kind).members = true → m.mem = []) ∧ ((wants m.kind).locks = true → m.locks = [])
    ∧ ((wants m.kind).lists = true → m.rows = [] ∧ m.dirty = [] ∧ m.deeds = [] ∧ m.past = []) := by
  unfold spare at h
  simp only [Bool.or_eq_false_iff, Bool.and_eq_false_iff, Bool.not_eq_false', decide_eq_true_eq] at h
  obtain ⟨⟨⟨⟨⟨⟨⟨⟨h1, h2⟩, h3⟩, h4⟩, h5⟩, h6⟩, h7⟩, h8⟩, h9⟩ := h
  refine ⟨fun e => ?_, fun e => ?_, fun e => ?_, fun e => ?_, fun e => ?_, fun e => ?_, fun e => ?_, fun e => ?_, fun e => ?_⟩
  · rcases h1 with h1 | h1
    · rw [e] at h1; cases h1
    · exact h1
  · rcases h2 with h1 | h1
    · rw [e] at h1; cases h1
    · exact h1
  · rcases h3 with h1 | h1
    · rw [e] at h1; cases h1
    · exact empty_of h1
  · rcases h4 with h1 | h1
    · rw [e] at h1; cases h1
    · exact none_zero h1
  · rcases h5 with h1 | h1
    · rw [e] at h1; cases h1
    · exact none_zero h1
  · rcases h6 with h1 | h1
    · rw [e] at h1; cases h1
    · exact h1
  · rcases h7 with h1 | h1
    · rw [e] at h1; cases h1
    · exact List.eq_nil_of_length_eq_zero h1
  · rcases h8 with h1 | h1
    · rw [e] at h1; cases h1
    · exact List.eq_nil_of_length_eq_zero h1
  · rcases h9 with h1 | h1
    · rw [e] at h1; cases h1
    · exact ⟨List.eq_nil_of_length_eq_zero (by omega), List.eq_nil_of_length_eq_zero (by omega), List.eq_nil_of_length_eq_zero (by omega), List.eq_nil_of_length_eq_zero (by omega)⟩
theorem kind_cases {k : Int} (h : kindOk k = true) : k = 1 ∨ k = 2 ∨ k = 3 ∨ k = 4 ∨ k = 5 ∨ k = 6 ∨ k = 7 ∨ k = 8 ∨ k = 9 ∨ k = 10 := by
  unfold kindOk at h
  simp only [Bool.and_eq_true, decide_eq_true_eq] at h
  omega
theorem rest_parts {m : M} (h : rest m = true) : nC.fine m.tx ∧ nC.fine m.prev ∧ nC.fine m.nxt ∧ nC.fine m.coord ∧ iC.fine m.mem ∧ lsC.fine m.locks := by
  unfold rest at h
  simp only [Bool.and_eq_true] at h
  obtain ⟨⟨⟨⟨⟨h1, h2⟩, h3⟩, h4⟩, h5⟩, h6⟩ := h
  exact ⟨seq_fine h1 (by omega), seq_fine h2 (by omega), seq_fine h3 (by omega), node_fine h4, mem_fine h5, locks_fine h6⟩
theorem may_parts {m : M} (h : may m = true) : kindOk m.kind = true ∧ spare m = false ∧ ((m.kind = 7 ∨ m.kind = 8) → m.tx = 0 ∧ check m = true)
    ∧ ((m.kind = 1 ∨ m.kind = 2) → keyOk m.key = true ∧ valOk m.old = true ∧ valOk m.new = true) ∧ (¬ (m.kind = 7 ∨ m.kind = 8) → rest m = true) := by
  unfold may at h
  simp only [Bool.and_eq_true, Bool.not_eq_true'] at h
  obtain ⟨⟨h1, h2⟩, h3⟩ := h
  refine ⟨h1, h2, fun e => ?_, fun e => ?_, fun e => ?_⟩
  · rw [if_pos e] at h3
    simpa using h3
  · have e7 : ¬ (m.kind = 7 ∨ m.kind = 8) := by omega
    rw [if_neg e7, if_pos e] at h3
    simp only [Bool.and_eq_true] at h3
    exact ⟨h3.1.1.1, h3.1.1.2, h3.1.2⟩
  · rw [if_neg e] at h3
    by_cases e1 : m.kind = 1 ∨ m.kind = 2
    · rw [if_pos e1] at h3
      simp only [Bool.and_eq_true] at h3
      exact h3.2
    · rw [if_neg e1] at h3
      exact h3
theorem fields_fine {m : M} (h : may m = true) : (fC m.kind).fine m := by
  obtain ⟨h1, h2, h3, h4, h5⟩ := may_parts h
  obtain ⟨s1, s2, s3, s4, s5, s6, s7, s8, s9⟩ := spare_parts h2
  clear h h2
  obtain ⟨kind, tx, prev, nxt, key, old, new, coord, mem, locks, rows, dirty, deeds, past⟩ := m
  simp only at h1 h3 h4 h5 s1 s2 s3 s4 s5 s6 s7 s8 s9 ⊢
  rcases kind_cases h1 with rfl | rfl | rfl | rfl | rfl | rfl | rfl | rfl | rfl | rfl
  · obtain ⟨r1, r2, r3, r4, r5, r6⟩ := rest_parts (h5 (by omega))
    obtain ⟨k1, k2, k3⟩ := h4 (by omega)
    obtain rfl := s2 rfl
    obtain rfl := s6 rfl
    obtain rfl := s7 rfl
    obtain rfl := s8 rfl
    obtain ⟨rfl, rfl, rfl, rfl⟩ := s9 rfl
    exact ⟨⟨r1, r2, by have := key_small k1; show key.size ≤ 32; omega, val_fine k2, val_fine k3⟩, rfl⟩
  · obtain ⟨r1, r2, r3, r4, r5, r6⟩ := rest_parts (h5 (by omega))
    obtain ⟨k1, k2, k3⟩ := h4 (by omega)
    obtain rfl := s4 rfl
    obtain rfl := s6 rfl
    obtain rfl := s7 rfl
    obtain rfl := s8 rfl
    obtain ⟨rfl, rfl, rfl, rfl⟩ := s9 rfl
    exact ⟨⟨r1, r2, r3, by have := key_small k1; show key.size ≤ 32; omega, val_fine k3⟩, rfl⟩
  · obtain ⟨r1, r2, r3, r4, r5, r6⟩ := rest_parts (h5 (by omega))
    obtain rfl := s2 rfl
    obtain rfl := s3 rfl
    obtain rfl := s4 rfl
    obtain rfl := s5 rfl
    obtain ⟨rfl, rfl, rfl, rfl⟩ := s9 rfl
    exact ⟨⟨r1, r2, r4, r5, r6⟩, rfl⟩
  iterate 3
    · obtain ⟨r1, r2, r3, r4, r5, r6⟩ := rest_parts (h5 (by omega))
      obtain rfl := s2 rfl
      obtain rfl := s3 rfl
      obtain rfl := s4 rfl
      obtain rfl := s5 rfl
      obtain rfl := s6 rfl
      obtain rfl := s7 rfl
      obtain rfl := s8 rfl
      obtain ⟨rfl, rfl, rfl, rfl⟩ := s9 rfl
      exact ⟨⟨r1, r2⟩, rfl⟩
  · obtain ⟨rfl, _⟩ := h3 (by omega)
    obtain rfl := s1 rfl
    obtain rfl := s2 rfl
    obtain rfl := s3 rfl
    obtain rfl := s4 rfl
    obtain rfl := s5 rfl
    obtain rfl := s6 rfl
    obtain rfl := s7 rfl
    obtain rfl := s8 rfl
    obtain ⟨rfl, rfl, rfl, rfl⟩ := s9 rfl
    exact ⟨trivial, rfl⟩
  · obtain ⟨rfl, hc⟩ := h3 (by omega)
    unfold check at hc
    simp only [Bool.and_eq_true] at hc
    obtain rfl := s1 rfl
    obtain rfl := s2 rfl
    obtain rfl := s3 rfl
    obtain rfl := s4 rfl
    obtain rfl := s5 rfl
    obtain rfl := s6 rfl
    obtain rfl := s7 rfl
    obtain rfl := s8 rfl
    exact ⟨⟨rows_fine hc.1.1.1, dirtys_fine hc.1.1.2, deeds_fine hc.1.2, past_fine hc.2⟩, rfl⟩
  · obtain ⟨r1, r2, r3, r4, r5, r6⟩ := rest_parts (h5 (by omega))
    obtain rfl := s1 rfl
    obtain rfl := s2 rfl
    obtain rfl := s3 rfl
    obtain rfl := s4 rfl
    obtain rfl := s5 rfl
    obtain rfl := s6 rfl
    obtain rfl := s8 rfl
    obtain ⟨rfl, rfl, rfl, rfl⟩ := s9 rfl
    exact ⟨⟨r1, r5⟩, rfl⟩
  · obtain ⟨r1, r2, r3, r4, r5, r6⟩ := rest_parts (h5 (by omega))
    obtain rfl := s1 rfl
    obtain rfl := s2 rfl
    obtain rfl := s3 rfl
    obtain rfl := s4 rfl
    obtain rfl := s5 rfl
    obtain rfl := s6 rfl
    obtain rfl := s7 rfl
    obtain rfl := s8 rfl
    obtain ⟨rfl, rfl, rfl, rfl⟩ := s9 rfl
    exact ⟨r1, rfl⟩
theorem kind_fine {m : M} (h : may m = true) : nC.fine m.kind := by
  have h1 := (may_parts h).1
  have := kind_cases h1
  exact ⟨by omega, by omega⟩
theorem endE_empty : endE ⟨[], 0⟩ = 0 := rfl
/-- what is written is read -/
theorem dec_enc {m : M} (h : may m = true) (hl : (body m).length ≤ 4096) : dec (body m) = (m, 0) := by
  have hk := nC.there m.kind ((fC m.kind).enc m) (kind_fine h)
  have hf := (fC m.kind).there m [] (fields_fine h)
  rw [List.append_nil] at hf
  unfold dec
  rw [if_neg (by omega)]
  unfold decR
  rw [show nC.dec ⟨body m, 0⟩ = (m.kind, ⟨(fC m.kind).enc m, 0⟩) from hk]
  simp only
  rw [if_neg (by rw [(may_parts h).1]; simp)]
  unfold decF
  rw [hf]
  simp only [endE_empty]
  rw [if_neg (by decide), if_pos h]
/-- the kind that is read stands in what is read -/
theorem dec_kind (k : Int) (r : Sl.R) : ((fC k).dec r).1.kind = k := by
  unfold fC
  repeat (first | split | (subst_vars; rfl))
  all_goals (first | rfl | (subst_vars; rfl))
/-- what is read has just these bytes -/
theorem dec_back {b : List UInt8} {m : M} (h : dec b = (m, 0)) : may m = true ∧ body m = b ∧ b.length ≤ 4096 := by
  unfold dec at h
  by_cases hl : 4096 < b.length
  · rw [if_pos hl] at h
    injection h with _ h
    cases h
  · rw [if_neg hl] at h
    unfold decR at h
    by_cases hk : (nC.dec ⟨b, 0⟩).2.e = 0 ∧ kindOk (nC.dec ⟨b, 0⟩).1 = false
    · rw [if_pos hk] at h
      injection h with _ h
      cases h
    · rw [if_neg hk] at h
      unfold decF at h
      by_cases he : endE ((fC (nC.dec ⟨b, 0⟩).1).dec (nC.dec ⟨b, 0⟩).2).2 ≠ 0
      · rw [if_pos he] at h
        injection h with _ h
        exact absurd h he
      · rw [if_neg he] at h
        by_cases hm : may ((fC (nC.dec ⟨b, 0⟩).1).dec (nC.dec ⟨b, 0⟩).2).1 = true
        · rw [if_pos hm] at h
          injection h with h _
          rw [h] at hm
          refine ⟨hm, ?_, by omega⟩
          have he : endE ((fC (nC.dec ⟨b, 0⟩).1).dec (nC.dec ⟨b, 0⟩).2).2 = 0 := by omega
          unfold endE at he
          obtain ⟨e1, e2, _⟩ := Cd.try_back he
          have e3 : ((fC (nC.dec ⟨b, 0⟩).1).dec (nC.dec ⟨b, 0⟩).2).2.b = [] := by
            unfold Sl.endF at e2
            split at e2
            · cases e2
            · exact List.eq_nil_of_length_eq_zero (by omega)
          obtain ⟨f1, f2⟩ := (fC (nC.dec ⟨b, 0⟩).1).back _ e1
          obtain ⟨g1, g2⟩ := nC.back _ f1
          have hkd := dec_kind (nC.dec ⟨b, 0⟩).1 (nC.dec ⟨b, 0⟩).2
          rw [h] at f2 hkd
          rw [e3, List.append_nil] at f2
          unfold body
          rw [hkd, f2]
          exact g2
        · rw [if_neg hm] at h
          injection h with _ h
          cases h
theorem dec_not {b : List UInt8} (h : (dec b).2 ≠ 0) : dec b = (M.zero, (dec b).2) := by
  unfold dec at h ⊢
  split
  · rfl
  · rename_i hl
    rw [if_neg hl] at h
    unfold decR at h ⊢
    split
    · rfl
    · rename_i hk
      rw [if_neg hk] at h
      unfold decF at h ⊢
      split
      · rfl
      · rename_i he
        rw [if_neg he] at h
        split
        · rename_i hm
          rw [if_pos hm] at h
          exact absurd rfl h
        · rfl
/-- no beginning is one -/
theorem dec_cut {m : M} {k : Nat} (h : may m = true) (hl : (body m).length ≤ 4096) (hk : k < (body m).length) : dec ((body m).take k) = (M.zero, 10) := by
  have hs := (Cd.pair nC (fC m.kind)).short (m.kind, m) k ⟨kind_fine h, fields_fine h⟩ hk
  have hs : ((fC m.kind).dec (nC.dec ⟨(body m).take k, 0⟩).2).2.e = 10 := hs
  unfold dec
  rw [if_neg (by rw [List.length_take]; omega)]
  unfold decR
  by_cases hc : k < (Sl.numB m.kind).length
  · have h1 := nC.short m.kind k (kind_fine h) hc
    have h1 : (nC.dec ⟨(Sl.numB m.kind).take k, 0⟩).2.e = 10 := h1
    have e : (body m).take k = (Sl.numB m.kind).take k := by unfold body; rw [List.take_append_of_le_length (by omega)]
    rw [e]
    rw [if_neg (by rw [h1]; simp)]
    unfold decF
    have h2 : ∀ j, ((fC j).dec (nC.dec ⟨(Sl.numB m.kind).take k, 0⟩).2).2.e = 10 := fun j => by rw [(fC j).stuck _ (by rw [h1]; decide), h1]
    have h3 : ∀ j, endE ((fC j).dec (nC.dec ⟨(Sl.numB m.kind).take k, 0⟩).2).2 = 10 := fun j => by unfold endE; rw [Cd.try_stuck _ _ (by rw [h2]; decide), h2]
    rw [if_pos (by rw [h3]; decide), h3]
  · have e : (body m).take k = Sl.numB m.kind ++ ((fC m.kind).enc m).take (k - (Sl.numB m.kind).length) := by unfold body; rw [List.take_append, List.take_of_length_le (by omega)]
    have h1 := nC.there m.kind (((fC m.kind).enc m).take (k - (Sl.numB m.kind).length)) (kind_fine h)
    have h1 : nC.dec ⟨Sl.numB m.kind ++ ((fC m.kind).enc m).take (k - (Sl.numB m.kind).length), 0⟩ = (m.kind, ⟨((fC m.kind).enc m).take (k - (Sl.numB m.kind).length), 0⟩) := h1
    rw [e] at hs ⊢
    rw [h1] at hs ⊢
    simp only at hs ⊢
    rw [if_neg (by rw [(may_parts h).1]; simp)]
    unfold decF
    have h3 : endE ((fC m.kind).dec ⟨((fC m.kind).enc m).take (k - (Sl.numB m.kind).length), 0⟩).2 = 10 := by unfold endE; rw [Cd.try_stuck _ _ (by rw [hs]; decide), hs]
    rw [if_pos (by rw [h3]; decide), h3]
end Go.Proofs.Ytlijfnekopjogaa.Rc
