/- The document's layer 6: Body. -/
import Derived.Test.YtfcmlfcpgboigaaRef06
namespace Go.Proofs.Ytfcmlfcpgboigaa
open Go.RowKit Mem
set_option linter.unusedVariables false
set_option linter.unusedSimpArgs false
set_option maxRecDepth 100000

set_option maxHeartbeats 4000000 in
theorem ref06body_any (m : Ms.M) (w : World) (hm : ∀ x ∈ m.vals, -9223372036854775808 ≤ x ∧ x ≤ 9223372036854775807) : Calls Try.prog 37 #[mVal m] w (OwnB 5 w (Ms.body m)) := by
  obtain ⟨i0, hi0, hz0, hz1, hz2⟩ := info_parts ninfo8
  have HI := Lib.hid (And.intro hi0 (And.intro hz0 (And.intro hz1 hz2)))
  have hb0 : Below w.heap.size w (w.alloc (.cells (mCells m) 48)) := (Below.refl _ _).alloc (Nat.le_refl _) _
  have hblk : Blk (w.alloc (.cells (mCells m) 48)) w.heap.size 48 (mCells m) := Blk.new _ _ _
  have hs0 : (w.alloc (.cells (mCells m) 48)).heap.size = w.heap.size + 1 := by simp
  have e : Ms.body m = (((Sl.numB m.gen ++ Sl.numB m.inc) ++ Sl.numB m.first) ++ Sl.numB m.lsn) ++ Sl.numB m.check := by simp [Ms.body, Ms.M.vals]
  rw [e]
  have n0 := fun W => refNum_any m.gen W (hm _ (by simp [Ms.M.vals]))
  have n1 := fun W => refNum_any m.inc W (hm _ (by simp [Ms.M.vals]))
  have n2 := fun W => refNum_any m.first W (hm _ (by simp [Ms.M.vals]))
  have n3 := fun W => refNum_any m.lsn W (hm _ (by simp [Ms.M.vals]))
  have n4 := fun W => refNum_any m.check W (hm _ (by simp [Ms.M.vals]))
  have l0 := Sl.numB_length m.gen
  have l1 := Sl.numB_length m.inc
  have l2 := Sl.numB_length m.first
  have l3 := Sl.numB_length m.lsn
  have l4 := Sl.numB_length m.check
  generalize Sl.numB m.gen = b0 at *
  generalize Sl.numB m.inc = b1 at *
  generalize Sl.numB m.first = b2 at *
  generalize Sl.numB m.lsn = b3 at *
  generalize Sl.numB m.check = b4 at *
  have H := Lib.hid (And.intro hb0 (And.intro hblk (And.intro n0 (And.intro n1 (And.intro n2 (And.intro n3 (And.intro n4 hs0)))))))
  clear hb0 hblk n0 n1 n2 n3 n4 hi0 hz0 hz1 hz2 e hm
  unfold mVal mCells at *
  go_enter Try.func37, Try.ntmps37
  go_wp2_with fail
  refine (H.out.2.2.1 _).mono ?_
  rintro e w1 ⟨v1, rfl, ho1, hb1⟩
  generalize hW0 : w.alloc (.cells #[.int .i64 m.gen, .int .i64 m.inc, .int .i64 m.first, .int .i64 m.lsn, .int .i64 m.check] 48) = W0 at *
  obtain ⟨A1, d1, rfl⟩ := own_slice ho1
  have H1 := Lib.hid (And.intro ho1 hb1)
  have c1 : w1.cell? ⟨w.heap.size, 1, none⟩ = some (.int .i64 m.inc) := (H.out.2.1.below hb1 (by omega)).cell 1
  clear ho1 hb1
  go_wp2_with fail
  refine (H.out.2.2.2.1 _).mono ?_
  rintro e x1 ⟨u1, rfl, hu1, hx1⟩
  obtain ⟨B1, f1, rfl⟩ := own_slice hu1
  have hbx1 := H1.out.2.trans (hx1.mono H1.out.2.size)
  have hsx1 := hbx1.size
  have X1 := Lib.hid (And.intro (BS.of_own hu1) (And.intro (own_below H1.out.1 hx1) hbx1))
  clear hu1 hx1 hbx1
  go_wp2_with (at_builtin; refine wpList_append_bs _ rfl (.tmp 7) (.tmp 10) 42 rfl W0.heap.size 5 i0 Try.underlying42 HI.out.1 HI.out.2.1 HI.out.2.2.1 HI.out.2.2.2 (.slice A1 _ d1) _ _ rfl X1.out.2.1 B1 _ f1 b1 rfl X1.out.1 (by first | omega | (simp only [List.length_append]; omega)) (by omega) ?_; intro v2 w2 hown2 hg2 hat2; have c2 : w2.cell? ⟨w.heap.size, 2, none⟩ = some (.int .i64 m.first) := (H.out.2.1.below (X1.out.2.2.grown hg2 X1.out.2.2.size (fun j hj => own_ge X1.out.2.1 hj)) (by omega)).cell 2)
  rw [← u8s_append, ← List.length_append] at hown2
  have ql2 : (b0 ++ b1).length ≤ b0.length + b1.length := by rw [List.length_append]; omega
  obtain ⟨q2, hq2⟩ : ∃ l, b0 ++ b1 = l := ⟨_, rfl⟩
  rw [hq2] at hown2 ql2
  have HQ2 := Lib.hid hq2
  clear hq2
  obtain ⟨A2, d2, rfl⟩ := own_slice hown2
  have hbz2 := X1.out.2.2.grown hg2 X1.out.2.2.size (fun j hj => own_ge X1.out.2.1 hj)
  have H2 := Lib.hid (And.intro hown2 hbz2)
  clear hown2 hg2 hat2 hbz2 X1
  refine (H.out.2.2.2.2.1 _).mono ?_
  rintro e x2 ⟨u2, rfl, hu2, hx2⟩
  obtain ⟨B2, f2, rfl⟩ := own_slice hu2
  have hbx2 := H2.out.2.trans (hx2.mono H2.out.2.size)
  have hsx2 := hbx2.size
  have X2 := Lib.hid (And.intro (BS.of_own hu2) (And.intro (own_below H2.out.1 hx2) hbx2))
  clear hu2 hx2 hbx2
  go_wp2_with (at_builtin; refine wpList_append_bs _ rfl (.tmp 12) (.tmp 15) 42 rfl W0.heap.size 5 i0 Try.underlying42 HI.out.1 HI.out.2.1 HI.out.2.2.1 HI.out.2.2.2 (.slice A2 _ d2) _ _ rfl X2.out.2.1 B2 _ f2 b2 rfl X2.out.1 (by first | omega | (simp only [List.length_append]; omega)) (by omega) ?_; intro v3 w3 hown3 hg3 hat3; have c3 : w3.cell? ⟨w.heap.size, 3, none⟩ = some (.int .i64 m.lsn) := (H.out.2.1.below (X2.out.2.2.grown hg3 X2.out.2.2.size (fun j hj => own_ge X2.out.2.1 hj)) (by omega)).cell 3)
  rw [← u8s_append, ← List.length_append] at hown3
  have ql3 : (q2 ++ b2).length ≤ q2.length + b2.length := by rw [List.length_append]; omega
  obtain ⟨q3, hq3⟩ : ∃ l, q2 ++ b2 = l := ⟨_, rfl⟩
  rw [hq3] at hown3 ql3
  have HQ3 := Lib.hid hq3
  clear hq3
  obtain ⟨A3, d3, rfl⟩ := own_slice hown3
  have hbz3 := X2.out.2.2.grown hg3 X2.out.2.2.size (fun j hj => own_ge X2.out.2.1 hj)
  have H3 := Lib.hid (And.intro hown3 hbz3)
  clear hown3 hg3 hat3 hbz3 X2
  refine (H.out.2.2.2.2.2.1 _).mono ?_
  rintro e x3 ⟨u3, rfl, hu3, hx3⟩
  obtain ⟨B3, f3, rfl⟩ := own_slice hu3
  have hbx3 := H3.out.2.trans (hx3.mono H3.out.2.size)
  have hsx3 := hbx3.size
  have X3 := Lib.hid (And.intro (BS.of_own hu3) (And.intro (own_below H3.out.1 hx3) hbx3))
  clear hu3 hx3 hbx3
  go_wp2_with (at_builtin; refine wpList_append_bs _ rfl (.tmp 17) (.tmp 20) 42 rfl W0.heap.size 5 i0 Try.underlying42 HI.out.1 HI.out.2.1 HI.out.2.2.1 HI.out.2.2.2 (.slice A3 _ d3) _ _ rfl X3.out.2.1 B3 _ f3 b3 rfl X3.out.1 (by first | omega | (simp only [List.length_append]; omega)) (by omega) ?_; intro v4 w4 hown4 hg4 hat4; have c4 : w4.cell? ⟨w.heap.size, 4, none⟩ = some (.int .i64 m.check) := (H.out.2.1.below (X3.out.2.2.grown hg4 X3.out.2.2.size (fun j hj => own_ge X3.out.2.1 hj)) (by omega)).cell 4)
  rw [← u8s_append, ← List.length_append] at hown4
  have ql4 : (q3 ++ b3).length ≤ q3.length + b3.length := by rw [List.length_append]; omega
  obtain ⟨q4, hq4⟩ : ∃ l, q3 ++ b3 = l := ⟨_, rfl⟩
  rw [hq4] at hown4 ql4
  have HQ4 := Lib.hid hq4
  clear hq4
  obtain ⟨A4, d4, rfl⟩ := own_slice hown4
  have hbz4 := X3.out.2.2.grown hg4 X3.out.2.2.size (fun j hj => own_ge X3.out.2.1 hj)
  have H4 := Lib.hid (And.intro hown4 hbz4)
  clear hown4 hg4 hat4 hbz4 X3
  refine (H.out.2.2.2.2.2.2.1 _).mono ?_
  rintro e x4 ⟨u4, rfl, hu4, hx4⟩
  obtain ⟨B4, f4, rfl⟩ := own_slice hu4
  have hbx4 := H4.out.2.trans (hx4.mono H4.out.2.size)
  have hsx4 := hbx4.size
  have X4 := Lib.hid (And.intro (BS.of_own hu4) (And.intro (own_below H4.out.1 hx4) hbx4))
  clear hu4 hx4 hbx4
  go_wp2_with (at_builtin; refine wpList_append_bs _ rfl (.tmp 22) (.tmp 25) 42 rfl W0.heap.size 5 i0 Try.underlying42 HI.out.1 HI.out.2.1 HI.out.2.2.1 HI.out.2.2.2 (.slice A4 _ d4) _ _ rfl X4.out.2.1 B4 _ f4 b4 rfl X4.out.1 (by first | omega | (simp only [List.length_append]; omega)) (by omega) ?_; intro v5 w5 hown5 hg5 hat5)
  rw [← u8s_append, ← List.length_append] at hown5
  have ql5 : (q4 ++ b4).length ≤ q4.length + b4.length := by rw [List.length_append]; omega
  obtain ⟨q5, hq5⟩ : ∃ l, q4 ++ b4 = l := ⟨_, rfl⟩
  rw [hq5] at hown5 ql5
  have HQ5 := Lib.hid hq5
  clear hq5
  obtain ⟨A5, d5, rfl⟩ := own_slice hown5
  have hbz5 := X4.out.2.2.grown hg5 X4.out.2.2.size (fun j hj => own_ge X4.out.2.1 hj)
  have H5 := Lib.hid (And.intro hown5 hbz5)
  clear hown5 hg5 hat5 hbz5 X4
  go_wp2
  go_ret
  have hs := H.out.1.size
  refine ⟨_, rfl, ?_, H.out.1.trans (H5.out.2.mono (by omega))⟩
  rw [HQ2.out, HQ3.out, HQ4.out, HQ5.out]
  exact own_base H5.out.1 (by omega)
end Go.Proofs.Ytfcmlfcpgboigaa
