/- What Lay lays, as plain data; how long what is found is. -/
import Derived.Test.YtlpdjpkdgagjpaaDoorSheetMath
namespace Go.Proofs.YtlpdjpkdgagjpaaDoor.Sh
open Go.Proofs.YtlpdjpkdgagjpaaDoor
set_option linter.unusedVariables false
set_option linter.unusedSimpArgs false

theorem numB_small (n : Nat) (h : n < 128) : (Sl.numB (n : Int)).length = 1 := by
  have hle := Num.shortB_mono n 127 (by omega)
  have h127 : (Num.shortB 127).length = 1 := by decide +kernel
  have := (Sl.numB_length (n : Int)).1
  rw [Sl.numB_nat'] at this ⊢
  omega
theorem numB_two (n : Nat) (h1 : 128 ≤ n) (h : n < 16384) : (Sl.numB (n : Int)).length = 2 := by
  have hle := Num.shortB_mono n 16383 (by omega)
  have hge := Num.shortB_mono 128 n (by omega)
  have h1 : (Num.shortB 16383).length = 2 := by decide +kernel
  have h2 : (Num.shortB 128).length = 2 := by decide +kernel
  rw [Sl.numB_nat']
  omega
/-- how long a sealed body is -/
theorem seal_len (b : List UInt8) (h : b.length < 16384) : (Sl.sealB b).length = b.length + (if 127 < b.length then 6 else 5) := by
  rw [Sl.sealB_length, Sl.textB_length]
  split
  · rw [numB_two _ (by omega) h]; omega
  · rw [numB_small _ (by omega)]; omega
/-- a sheet -/
structure Sd where
  inc : Int
  pos : Int
  first : Int
  data : List UInt8
def sd0 : Sd := ⟨0, 0, 0, []⟩
def laid (inc pos : Int) (bs : List (List UInt8)) (n : Nat) : List Sd := (List.range n).map fun (p : Nat) => ⟨inc, pos + (p : Int), firstAt (starts bs 0) (242 * p), ((flat bs).drop (242 * p)).take 242⟩
theorem laid_length (inc pos : Int) (bs : List (List UInt8)) (n : Nat) : (laid inc pos bs n).length = n := by simp [laid]
theorem laid_zero (inc pos : Int) (bs : List (List UInt8)) : laid inc pos bs 0 = [] := rfl
theorem laid_succ (inc pos : Int) (bs : List (List UInt8)) (n : Nat) : laid inc pos bs (n + 1) = laid inc pos bs n ++ [⟨inc, pos + (n : Int), firstAt (starts bs 0) (242 * n), ((flat bs).drop (242 * n)).take 242⟩] := by simp [laid, List.range_succ]
theorem laid_sheets (inc pos : Int) (bs : List (List UInt8)) (n : Nat) : (laid inc pos bs n).map (fun s => (s.first, s.data)) = sheets bs n := by
  simp [laid, sheets, sheetAt, Function.comp_def]
theorem laid_take (inc pos : Int) (bs : List (List UInt8)) (n k : Nat) (h : k ≤ n) : (laid inc pos bs n).take k = laid inc pos bs k := by
  unfold laid
  rw [← List.map_take, List.take_range, Nat.min_eq_left h]
theorem laid_data (inc pos : Int) (bs : List (List UInt8)) (n : Nat) : ∀ s ∈ laid inc pos bs n, s.data.length ≤ 242 := by
  intro s hs
  simp only [laid, List.mem_map] at hs
  obtain ⟨p, _, rfl⟩ := hs
  simp only [List.length_take]
  omega
def long (bs : List (List UInt8)) : Bool := bs.any (fun b => decide (4096 < b.length))
theorem long_cons (b : List UInt8) (bs : List (List UInt8)) : long (b :: bs) = (decide (4096 < b.length) || long bs) := by simp [long]
theorem long_append (a b : List (List UInt8)) : long (a ++ b) = (long a || long b) := by simp [long]
theorem long_false {bs : List (List UInt8)} (h : long bs = false) : ∀ b ∈ bs, b.length ≤ 4096 := by
  intro b hb
  unfold long at h
  rw [List.any_eq_false] at h
  have := h b hb
  simpa using this
theorem long_of {bs : List (List UInt8)} (h : ∀ b ∈ bs, b.length ≤ 4096) : long bs = false := by
  unfold long
  rw [List.any_eq_false]
  intro b hb
  have := h b hb
  simpa using this
theorem long_true {bs : List (List UInt8)} {b : List UInt8} (hb : b ∈ bs) (h : 4096 < b.length) : long bs = true := by
  unfold long
  rw [List.any_eq_true]
  exact ⟨b, hb, by simpa using h⟩
def badPos (inc pos : Int) : Bool := decide (inc < 0) || decide (1099511627776 ≤ inc) || decide (pos < 0) || decide (1099511627776 ≤ pos)
def fullAt (pos : Int) (n : Nat) : Bool := decide (1099511627776 < pos + (n : Int))
def layR (inc pos : Int) (bs : List (List UInt8)) : List Sd × Nat :=
  if badPos inc pos = true then ([], 1)
  else if long bs = true then ([], 12)
  else if fullAt pos (count bs) = true then ([], 162)
  else (laid inc pos bs (count bs), 0)
theorem layR_bad {inc pos : Int} {bs : List (List UInt8)} (h : badPos inc pos = true) : layR inc pos bs = ([], 1) := by unfold layR; rw [if_pos h]
theorem layR_long {inc pos : Int} {bs : List (List UInt8)} (h : badPos inc pos = false) (hl : long bs = true) : layR inc pos bs = ([], 12) := by unfold layR; rw [if_neg (by rw [h]; decide), if_pos hl]
theorem layR_full {inc pos : Int} {bs : List (List UInt8)} (h : badPos inc pos = false) (hl : long bs = false) (hf : fullAt pos (count bs) = true) : layR inc pos bs = ([], 162) := by unfold layR; rw [if_neg (by rw [h]; decide), if_neg (by rw [hl]; decide), if_pos hf]
theorem layR_ok {inc pos : Int} {bs : List (List UInt8)} (h : badPos inc pos = false) (hl : long bs = false) (hf : fullAt pos (count bs) = false) : layR inc pos bs = (laid inc pos bs (count bs), 0) := by unfold layR; rw [if_neg (by rw [h]; decide), if_neg (by rw [hl]; decide), if_neg (by rw [hf]; decide)]
theorem count_more {bs : List (List UInt8)} {p : Nat} : p < count bs ↔ 242 * p < (flat bs).length := by unfold count; omega
theorem count_drop {bs : List (List UInt8)} {p : Nat} : p < count bs ↔ 0 < ((flat bs).drop (242 * p)).length := by rw [count_more, List.length_drop]; omega
theorem flat_len {bs : List (List UInt8)} {k m : Nat} (hm : m < 16384) (hn : bs.length ≤ k) (h : ∀ b ∈ bs, b.length ≤ m) : (flat bs).length ≤ k * (m + 6) := by
  induction bs generalizing k with
  | nil => simp [flat_nil]
  | cons b bs ih =>
    rw [List.length_cons] at hn
    obtain ⟨k, rfl⟩ : ∃ j, k = j + 1 := ⟨k - 1, by omega⟩
    have h1 := ih (k := k) (by omega) (fun b hb => h b (List.mem_cons_of_mem _ hb))
    have h2 := h b (List.mem_cons_self ..)
    have h3 : (Sl.sealB b).length ≤ b.length + 6 := by
      rw [seal_len b (by omega)]
      split <;> omega
    rw [flat_cons, List.length_append, Nat.add_mul]
    omega
/-- how much is found -/
theorem opens_len : ∀ (k : Nat) (f : F) (rest : List UInt8) (i : Nat), ((opens k f rest i).1.out.length ≤ f.out.length + k) ∧ ((opens k f rest i).1.way.length ≤ max f.way.length rest.length)
  | 0, f, rest, i => by simp only [opens]; omega
  | k + 1, f, rest, i => by
    rw [opens]
    split
    · simp only; omega
    · split
      · obtain ⟨h1, h2⟩ := opens_len k ⟨f.out ++ [((Sl.openB rest).1, i)], f.way, f.frm, f.under⟩ (rest.drop (Sl.openB rest).2.1) i
        simp only [List.length_append, List.length_singleton, List.length_drop] at h1 h2
        refine ⟨by omega, Nat.le_trans h2 ?_⟩
        omega
      · split
        · simp only; omega
        · simp only; omega
theorem goesOn_len (f : F) (head : List UInt8) : (goesOn f head).1.out.length ≤ f.out.length + 1 ∧ (goesOn f head).1.way.length ≤ f.way.length + head.length := by
  unfold goesOn
  split
  · simp only; omega
  · split
    · simp only [List.length_append]; omega
    · split
      · simp only [List.length_append]; omega
      · simp only [List.length_append, List.length_singleton]; omega
theorem cut_le (first : Int) (n : Nat) : cutAt first n ≤ n := by
  unfold cutAt
  split
  · rename_i h
    unfold isF at h
    rw [Bool.and_eq_true, decide_eq_true_eq, decide_eq_true_eq] at h
    omega
  · omega
theorem step_len (f : F) (x : Int × List UInt8) (i : Nat) : (step f x i).1.out.length ≤ f.out.length + x.2.length + 1 ∧ (step f x i).1.way.length ≤ f.way.length + x.2.length := by
  obtain ⟨h1, h2⟩ := goesOn_len f (x.2.take (cutAt x.1 x.2.length))
  have hc := cut_le x.1 x.2.length
  rw [List.length_take] at h2
  unfold step
  split
  · simp only; omega
  · split
    · unfold begins
      obtain ⟨g1, g2⟩ := opens_len (x.2.drop (cutAt x.1 x.2.length)).length ⟨(goesOn f (x.2.take (cutAt x.1 x.2.length))).1.out, (goesOn f (x.2.take (cutAt x.1 x.2.length))).1.way, (goesOn f (x.2.take (cutAt x.1 x.2.length))).1.frm, false⟩ (x.2.drop (cutAt x.1 x.2.length)) i
      rw [List.length_drop] at g1 g2
      simp only at g1 g2
      rw [List.length_drop]
      omega
    · simp only; omega
end Go.Proofs.YtlpdjpkdgagjpaaDoor.Sh
