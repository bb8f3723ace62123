/- trothref01.Same. -/
import Derived.Test.YtlijfnekopjogaaRows
import Derived.Test.YtlijfnekopjogaaMem
import Derived.RegionTactic
import Derived.ChangeAlike
import Derived.Deep.QuietTactic
import Derived.BigQuiet
namespace Go.Proofs.Ytlijfnekopjogaa
open Go.RowKit Mem
set_option linter.unusedVariables false

/-- only draws were made -/
def Drawn (w w' : World) : Prop := ∃ n, w' = w.drewN n
theorem Drawn.below {w w' : World} (h : Drawn w w') : Below w.heap.size w w' := by
  obtain ⟨n, rfl⟩ := h
  exact ⟨rfl, rfl, rfl, Nat.le_refl _, fun _ _ => rfl⟩
theorem Drawn.refl (w : World) : Drawn w w := ⟨0, rfl⟩

theorem take_snoc (l : List UInt8) (k : Nat) (h : k < l.length) : l.take (k + 1) = l.take k ++ [l.getD k 0] := by
  rw [List.take_succ_eq_append_getElem h, List.getD_eq_getElem?_getD, List.getElem?_eq_getElem h]
  rfl
theorem byte_ne (x y : UInt8) : ((x.toNat : Int) != (y.toNat : Int)) = decide (x ≠ y) := by
  by_cases h : x = y
  · subst h; simp
  · have : x.toNat ≠ y.toNat := fun e => h (UInt8.toNat_inj.1 e)
    simp [h]; omega
theorem take_ne (a b : List UInt8) (k : Nat) (ha : k < a.length) (hb : k < b.length) (h : a.getD k 0 ≠ b.getD k 0) : a ≠ b := by
  rintro rfl
  exact h rfl

set_option maxHeartbeats 1000000 in
theorem same_any (A B : Option Addr) (n m c d : Nat) (a b : List UInt8) (w : World) (ha : BS w A n a) (hb : BS w B m b) (hn : n ≤ 140737488351232) (hm : m ≤ 140737488351232) :
    Calls Try.prog 15 #[.slice A n c, .slice B m d] w fun e w' => e = .returned (.bool (decide (a = b))) ∧ Drawn w w' := by
  by_cases hl : n = m
  · subst hl
    have HL := Lib.hid (And.intro ha.1 hb.1)
    go_enter Try.func15, Try.ntmps15
    go_wp2
    go_loopw [4, 5] (fun r i wr => ∃ (k q : Nat), k ≤ n ∧ i = .int .i64 k ∧ r = .bool false ∧ a.take k = b.take k ∧ wr = w.drewN q) (fun _ i _ => n - (intOf i).toNat)
    case atStart => exact ⟨0, 0, by omega, rfl, rfl, by simp, rfl⟩
    case round =>
      obtain ⟨k, q, hk, rfl, rfl, htk, rfl⟩ := hrel
      by_cases hlt : k < n
      · obtain ⟨ba, offa, rfl, hca⟩ := ha.at_ hlt
        obtain ⟨bb, offb, rfl, hcb⟩ := hb.at_ hlt
        have hla : k < a.length := by rw [HL.out.1]; exact hlt
        have hlb : k < b.length := by rw [HL.out.2]; exact hlt
        have hta := take_snoc a k hla
        have htb := take_snoc b k hlb
        have hne := take_ne a b k hla hlb
        have hbn := byte_ne (a.getD k 0) (b.getD k 0)
        generalize a.getD k 0 = x at *
        generalize b.getD k 0 = y at *
        by_cases hxy : x = y
        · subst hxy
          have H := Lib.hid (And.intro htk (And.intro hta (And.intro htb (And.intro ha hb))))
          clear htk hta htb ha hb hne
          rw [show decide (x ≠ x) = false by simp] at hbn
          have hki : (k : Int) < (n : Int) := by omega
          go_wp2
          go_quiet (fail)
          go_wp2
          go_roundw
          case rel =>
            refine ⟨k + 1, _, by omega, by go_num, rfl, ?_, rfl⟩
            rw [H.out.2.1, H.out.2.2.1, H.out.1]
          case measure => simp [intOf]; omega
        · rw [show decide (x ≠ y) = true by simp [hxy]] at hbn
          have hab := hne hxy
          have HN := Lib.hid hab
          clear htk hta htb ha hb hne hab hxy
          have hki : (k : Int) < (n : Int) := by omega
          go_wp2
          go_quiet (fail)
          go_wp2
          go_ret
          refine ⟨?_, ?_⟩
          · rw [decide_eq_false HN.out]; rfl
          · exact ⟨_, World.drewN_drewN _ _ _⟩
      · obtain rfl : k = n := by omega
        have hab : a = b := by
          rw [List.take_of_length_le (by rw [HL.out.1]; omega), List.take_of_length_le (by rw [HL.out.2]; omega)] at htk
          exact htk
        have HN := Lib.hid hab
        clear htk hab
        go_wp2
        go_ret
        refine ⟨?_, ⟨q, rfl⟩⟩
        rw [decide_eq_true HN.out]; rfl
  · have hab : a ≠ b := by
      rintro rfl
      exact hl (ha.1.symm.trans hb.1)
    have HN := Lib.hid hab
    have hg : ((n : Int) != (m : Int)) = true := by rw [bne_iff_ne]; omega
    clear hab
    go_enter Try.func15, Try.ntmps15
    go_wp2
    go_ret
    refine ⟨?_, Drawn.refl _⟩
    rw [decide_eq_false HN.out]; rfl
end Go.Proofs.Ytlijfnekopjogaa
