/- The document's layer 3, what is written and read: Num, Text, the reader. -/
import Derived.Test.YtlijfnekopjogaaNumRefs
import Derived.Lib.AppendStr
import Derived.Test.YtlijfnekopjogaaSealRead2
import Derived.Test.YtlijfnekopjogaaSealWrite
namespace Go.Proofs.Ytlijfnekopjogaa
open Go.RowKit Mem
set_option linter.unusedVariables false
set_option linter.unusedSimpArgs false

set_option maxHeartbeats 1000000 in
theorem refNum_any (n : Int) (w : World) (hn : -9223372036854775808 ≤ n ∧ n ≤ 9223372036854775807) :
    Calls Try.prog 60 #[.int .i64 n] w (OwnB 5 w (Sl.numB n)) := by
  rcases Int.lt_or_le n 0 with h0 | h0
  · rw [numB_neg n h0]
    go_enter Try.func60, Try.ntmps60
    go_wp2_with fail
    refine (refShort_any 0 w (by omega)).mono ?_
    rintro e w1 ⟨v, rfl, ho, hb⟩
    obtain ⟨A, c, rfl⟩ := own_slice ho
    have H1 := Lib.hid (And.intro ho hb)
    clear ho hb
    go_wp2
    go_ret
    exact ⟨_, rfl, H1.out.1, H1.out.2⟩
  · obtain ⟨m, rfl⟩ := Int.eq_ofNat_of_zero_le h0
    rw [numB_nat m]
    go_enter Try.func60, Try.ntmps60
    go_wp2_with fail
    refine (refShort_any m w (by omega)).mono ?_
    rintro e w1 ⟨v, rfl, ho, hb⟩
    obtain ⟨A, c, rfl⟩ := own_slice ho
    have H1 := Lib.hid (And.intro ho hb)
    clear ho hb
    go_wp2
    go_ret
    exact ⟨_, rfl, H1.out.1, H1.out.2⟩
theorem strCells_u8s (s : List UInt8) : Lib.strCells ⟨s.toArray⟩ = u8s s := by simp [Lib.strCells, u8s]
theorem own_ge {w : World} {e : TypeId} {size n : Nat} {v : Value} {xs : List Value} {base k : Nat} (h : w.ownsRow base e size v n xs) (hv : v.ownBlock = some k) : base ≤ k := by
  rcases h.2 with ⟨rfl, _⟩ | ⟨g, cap, cur, rfl, hb, _⟩
  · simp [Value.ownBlock] at hv
  · simp [Value.ownBlock] at hv
    omega
theorem grown_below {w w1 w2 : World} {e : TypeId} {size n : Nat} {v : Value} {xs : List Value} (hb : Below w.heap.size w w1) (ho : w1.ownsRow w.heap.size e size v n xs) (hg : w1.grownBy w2 v.ownBlock) : Below w.heap.size w w2 := by
  have hf : Fr (fun k => v.ownBlock = some k) w1 w2 := (Fr.refl _ _).grown hg (fun k e _ => e)
  exact hb.trans (hf.below hb.size (fun k e => own_ge ho e))
set_option maxHeartbeats 1000000 in
theorem refText_any (s : List UInt8) (w : World) (hs : s.length ≤ 140737488351232) :
    Calls Try.prog 23 #[str s] w (OwnB 5 w (Sl.textB s)) := by
  obtain ⟨i0, hi0, hz0, hz1, hz2⟩ := info_parts ninfo8
  have HI := Lib.hid (And.intro hi0 (And.intro hz0 (And.intro hz1 hz2)))
  have hl11 := numB_le s.length
  have hsz := ba_size s
  have HS := Lib.hid (And.intro hl11 hsz)
  clear hi0 hz0 hz1 hz2 hl11 hsz
  unfold str
  go_enter Try.func23, Try.ntmps23
  go_wp2_with fail
  refine (refNum_any s.length w (by omega)).mono ?_
  rintro e w1 ⟨v, rfl, ho, hb⟩
  obtain ⟨A, c, rfl⟩ := own_slice ho
  have H1 := Lib.hid (And.intro ho hb)
  clear ho hb
  go_wp2_with (at_builtin; refine Lib.wpList_append_own_string _ rfl _ _ 33 9 rfl w.heap.size 5 i0 Try.underlying33 Try.underlying9 HI.out.1 HI.out.2.1 HI.out.2.2.1 HI.out.2.2.2 (.slice A (Sl.numB s.length).length c) _ _ rfl H1.out.1 ⟨s.toArray⟩ rfl (by rw [HS.out.2]; have := HS.out.1; unfold maxLen; omega) (by rw [HS.out.2]; have := HS.out.1; omega) H1.out.2.size ?_; intro v' w2 hown hg _)
  go_ret
  refine ⟨v', rfl, ?_, grown_below H1.out.2 H1.out.1 hg⟩
  rw [strCells_u8s, ← u8s_append, HS.out.2] at hown
  rw [show (Sl.textB s).length = (Sl.numB s.length).length + s.length by rw [Sl.textB, List.length_append]]
  exact hown

end Go.Proofs.Ytlijfnekopjogaa
