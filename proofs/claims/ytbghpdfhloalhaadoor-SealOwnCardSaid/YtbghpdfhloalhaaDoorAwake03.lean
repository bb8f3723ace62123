/- The law's awake of layer 3. -/
import Derived.Test.YtbghpdfhloalhaaDoorSealSum
import Derived.Test.YtbghpdfhloalhaaDoorSealMath2
import Derived.Test.YtbghpdfhloalhaaDoorSame
namespace Go.Proofs.YtbghpdfhloalhaaDoor
open Go.RowKit Mem
set_option linter.unusedVariables false
set_option linter.unusedSimpArgs false

theorem seal97 : (Sl.sealB [97]).length = 6 := by decide +kernel
set_option maxHeartbeats 4000000 in
theorem awake03_any (w : World) (ht : Half w) : Calls Tryd.prog 11 #[] w fun e w' => e = .returned (.bool true) ∧ Below w.heap.size w w' := by
  have hb0 : Below w.heap.size w (w.alloc (.cells #[.int .u8 97] 5)) := (Below.refl _ _).alloc (Nat.le_refl _) _
  have hs := seal_any (some ⟨w.heap.size, 0, none⟩) 1 1 [97] _ (BS.made w #[.int .u8 97] 5 (0, 0) [97] rfl) (by omega) (ht.below hb0)
  have e1 : Sl.sealE [97] = (Sl.sealB [97], 0) := by unfold Sl.sealE; rw [if_neg (by simp)]
  have e2 : Sl.openB (Sl.sealB [97]) = ([97], 6, 0) := by
    have := Sl.open_seal [97] [] (by simp)
    rw [List.append_nil, seal97] at this
    exact this
  rw [e1] at hs
  have h6 := seal97
  generalize Sl.sealB [97] = x at *
  have H := Lib.hid (And.intro hs (And.intro hb0 (And.intro ht (And.intro e2 h6))))
  clear hs hb0 ht e1 e2 h6
  go_enter Tryd.func11, Tryd.ntmps11
  go_wp2_with fail
  refine H.out.1.mono ?_
  rintro e w1 ⟨v, rfl, ho, hb1⟩
  simp only [H.out.2.2.2.2] at ho
  obtain ⟨A, c, rfl⟩ := own_slice ho
  have hcap : 6 ≤ c ∧ c ≤ 9223372036854775807 := by
    rcases ho.2 with ⟨_, e0⟩ | ⟨g, cap, cur, e0, _, _, h1, h2, _⟩
    · omega
    · injection e0; unfold maxLen at h2; omega
  have hbw : Below w.heap.size w w1 := H.out.2.1.trans (hb1.mono H.out.2.1.size)
  have H1 := Lib.hid (And.intro ho (And.intro hbw hcap))
  clear ho hb1 hbw hcap
  go_wp2_with fail
  have hop := open_any A 6 c x w1 (BS.of_own H1.out.1) (by omega) H1.out.2.2.1 H1.out.2.2.2 (H.out.2.2.1.below H1.out.2.1)
  rw [H.out.2.2.2.1] at hop
  refine hop.mono ?_
  rintro e w2 ⟨A2, c2, rfl, hB2, _, _, hb2, _⟩
  have hbw2 : Below w.heap.size w w2 := H1.out.2.1.trans (hb2.mono H1.out.2.1.size)
  have hbx : Below w2.heap.size w2 (w2.alloc (.cells #[.int .u8 97] 5)) := (Below.refl _ _).alloc (Nat.le_refl _) _
  have H2 := Lib.hid (And.intro hB2 (And.intro hbw2 (And.intro hbx hop)))
  clear hB2 hb2 hbw2 hbx hop
  go_wp2_with fail
  refine (same_any A2 (some ⟨w2.heap.size, 0, none⟩) _ 1 c2 1 [97] [97] _ (H2.out.1.below H2.out.2.2.1) (BS.made w2 #[.int .u8 97] 5 (0, 0) [97] rfl) (by simp) (by omega)).mono ?_
  rintro e w3 ⟨rfl, hd3⟩
  have hbw3 : Below w.heap.size w w3 := (H2.out.2.1.trans (H2.out.2.2.1.mono H2.out.2.1.size)).trans (hd3.below.mono (by have := H2.out.2.1.size; simp; omega))
  have H3 := Lib.hid hbw3
  clear hbw3 hd3
  go_wp2
  go_ret
  exact ⟨rfl, H3.out⟩
end Go.Proofs.YtbghpdfhloalhaaDoor
