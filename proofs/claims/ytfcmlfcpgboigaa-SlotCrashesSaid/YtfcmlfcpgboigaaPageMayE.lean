/- The document's pages and the program's: the same ones may be. -/
import Derived.Test.YtfcmlfcpgboigaaPageMayR
namespace Go.Proofs.Ytfcmlfcpgboigaa
open Go.RowKit Mem
set_option maxRecDepth 100000
set_option linter.unusedVariables false
set_option linter.unusedSimpArgs false

namespace Pg
theorem less_not : ∀ x y : List UInt8, Op.bytesLess x y = !(Op.bytesLess y x || y == x)
  | [], [] => rfl
  | [], b :: y => by simp [Op.bytesLess]
  | a :: x, [] => by simp [Op.bytesLess]
  | a :: x, b :: y => by
    have ih := less_not x y
    unfold Op.bytesLess
    rw [ih]
    have h3 : (b :: y == a :: x) = (b == a && y == x) := rfl
    rw [h3]
    by_cases h1 : a < b
    · have h2 : ¬ b < a := fun h => by have := UInt8.lt_iff_toNat_lt.1 h1; have := UInt8.lt_iff_toNat_lt.1 h; omega
      have h4 : ¬ b = a := fun h => by subst h; exact h2 h1
      simp [h1, h2, h4]
    · by_cases h2 : b < a
      · have h4 : ¬ a = b := fun h => by subst h; exact h1 h2
        simp [h1, h2, h4]
      · have h4 : a = b := by
          apply UInt8.toNat_inj.1
          have := mt UInt8.lt_iff_toNat_lt.2 h1
          have := mt UInt8.lt_iff_toNat_lt.2 h2
          omega
        subst h4
        simp [h1]
/-- the cell at k, behind s or the one ahead of it -/
def okFrom (s : ByteArray) (l : List C) (k : Nat) : Bool := fits (l.getD k C.zero) && Op.bytesLess (if k = 0 then s else (l.getD (k - 1) C.zero).key).toList (l.getD k C.zero).key.toList
theorem rise_from : ∀ (l : List C) (s : ByteArray), rise s l = (List.range l.length).all (okFrom s l)
  | [], _ => rfl
  | x :: l, s => by
    have ih := rise_from l x.key
    have e : ∀ k, okFrom s (x :: l) (k + 1) = okFrom x.key l k := fun k => by
      unfold okFrom
      rw [if_neg (by omega)]
      cases k with
      | zero => rfl
      | succ k => rw [if_neg (by omega)]; rfl
    rw [List.length_cons, List.range_succ_eq_map, List.all_cons, List.all_map]
    unfold rise
    rw [ih]
    have e0 : okFrom s (x :: l) 0 = (fits x && !(leq x.key s)) := by
      unfold okFrom leq
      rw [if_pos rfl, less_not]
      rfl
    rw [e0]
    congr 1
    congr 1
    funext k
    exact (e k).symm
theorem fits_key {x : C} (h : fits x = true) : Op.bytesLess [] x.key.toList = true := by
  unfold fits keyOk at h
  simp only [Bool.and_eq_true, Bool.not_eq_true'] at h
  cases hk : x.key.toList with
  | nil => rw [hk] at h; simp at h
  | cons a b => rfl
theorem ok_eq (l : List C) (k : Nat) : okFrom ⟨#[]⟩ l k = okAt l k := by
  unfold okFrom okAt
  by_cases h : k = 0
  · subst h
    rw [if_pos rfl, decide_eq_true rfl, Bool.true_or, Bool.and_true]
    cases hf : fits (l.getD 0 C.zero) with
    | false => rfl
    | true =>
      have := fits_key hf
      rw [Bool.true_and, ByteArray.toList_eq]
      exact this
  · rw [if_neg h, decide_eq_false h, Bool.false_or]
theorem may_eq (lsn : Int) (l : List C) : (decide (0 ≤ lsn) && decide (lsn ≤ 1099511627776) && decide (l.length ≤ 4) && (List.range l.length).all (okAt l)) = may lsn l := by
  unfold may
  rw [rise_from, show okFrom ⟨#[]⟩ l = okAt l from funext (ok_eq l)]
  cases (List.range l.length).all (okAt l) <;> cases decide (0 ≤ lsn) <;> cases decide (lsn ≤ 1099511627776) <;> cases decide (l.length ≤ 4) <;> rfl
end Pg
theorem refMay10_any (lsn : Int) (A : Option Addr) (n c : Nat) (l : List Pg.C) (w : World) (hl : ST cellK w A n l) (hn : n ≤ 1000000) :
    Calls Try.prog 50 #[pVal lsn A n c] w fun e w' => e = .returned (.bool (Pg.may lsn l)) ∧ Below w.heap.size w w' := by
  have := refMay_any lsn A n c l w hl hn
  rw [Pg.may_eq] at this
  exact this
end Go.Proofs.Ytfcmlfcpgboigaa
