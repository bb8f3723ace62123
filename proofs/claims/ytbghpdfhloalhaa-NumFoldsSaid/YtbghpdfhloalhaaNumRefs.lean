/- The document's functions of layer 1: Wide, TakeWide, Short, TakeShort, Less; and the law's awake. -/
import Derived.Test.YtbghpdfhloalhaaNumWalks
import Derived.Test.YtbghpdfhloalhaaSame
namespace Go.Proofs.Ytbghpdfhloalhaa
open Go.RowKit Mem
set_option linter.unusedVariables false

theorem wideB_cons (i : Nat) : ∀ n, Num.wideB n (i + 1) = UInt8.ofNat (n / 256 ^ i) :: Num.wideB n i := by
  induction i with
  | zero => intro n; simp [Num.wideB]
  | succ i ih =>
    intro n
    have e : Num.wideB n (i + 1 + 1) = Num.wideB (n / 256) (i + 1) ++ [UInt8.ofNat n] := rfl
    have e2 : Num.wideB n (i + 1) = Num.wideB (n / 256) i ++ [UInt8.ofNat n] := rfl
    rw [e, e2, ih, Nat.div_div_eq_div_mul, Nat.pow_succ, Nat.mul_comm 256]
    rfl

def WideP (e8 : TypeId) (w : World) (n k : Nat) (e : Ending) (w' : World) : Prop :=
  (n < 256 ^ k → OwnBE e8 w (Num.wideB n k) e w') ∧ (¬ n < 256 ^ k → e = .returned (.tuple #[.slice none 0 0, .int .i64 1])) ∧ Below w.heap.size w w'
theorem less_drop (a b : List UInt8) (k : Nat) (ha : k < a.length) (hb : k < b.length) : Num.less (a.drop k) (b.drop k) = if a.getD k 0 = b.getD k 0 then Num.less (a.drop (k + 1)) (b.drop (k + 1)) else decide (a.getD k 0 < b.getD k 0) := by
  rw [List.drop_eq_getElem_cons ha, List.drop_eq_getElem_cons hb, List.getD_eq_getElem?_getD, List.getElem?_eq_getElem ha, List.getD_eq_getElem?_getD, List.getElem?_eq_getElem hb]
  rfl
theorem less_end (a b : List UInt8) (h : a = [] ∨ b = []) : Num.less a b = decide (a.length < b.length) := by
  rcases h with rfl | rfl
  · cases b <;> simp [Num.less]
  · cases a <;> simp [Num.less]
theorem byte_lt_int (x y : UInt8) : decide (x.toNat < y.toNat) = decide (x < y) := by
  apply decide_eq_decide.2
  rw [UInt8.lt_iff_toNat_lt]
theorem doc300 : Num.shortB 300 = [130, 44] := by decide
set_option maxHeartbeats 400000 in
theorem awake01_any (w : World) : Calls Try.prog 4 #[] w fun e w' => e = .returned (.bool true) ∧ Below w.heap.size w w' := by
  go_enter Try.func4, Try.ntmps4
  go_wp2_with fail
  refine (short_any 300 w (by omega)).mono ?_
  rintro e w1 ⟨v, rfl, hown, hb1⟩
  rw [doc300] at hown
  obtain ⟨A1, c1, rfl⟩ := own_slice hown
  have H := Lib.hid (And.intro hown hb1)
  clear hown hb1
  go_wp2_with fail
  refine (same_any A1 (some ⟨w1.heap.size, 0, none⟩) 2 2 c1 2 [130, 44] [130, 44] _ ((BS.of_own H.out.1).keep (by simp) (fun b hb => Below.heap_alloc _ _ _ hb)) (BS.made w1 _ _ _ [130, 44] rfl) (by omega) (by omega)).mono ?_
  rintro e w2 ⟨rfl, hd⟩
  have hb := hd.below
  go_wp2
  go_ret
  refine ⟨rfl, ?_⟩
  have h2 := (H.out.2.alloc H.out.2.size (.cells #[Value.int .u8 130, Value.int .u8 44] 5))
  exact h2.trans (hb.mono h2.size)
end Go.Proofs.Ytbghpdfhloalhaa
