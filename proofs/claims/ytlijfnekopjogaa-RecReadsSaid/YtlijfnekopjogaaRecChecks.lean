/- RecChecks: joined out of RecCheck, RecWants. -/
import Derived.Test.YtlijfnekopjogaaRecVals
/- Whether a checkpoint's lists may be: rec.check. -/
namespace Go.Proofs.Ytlijfnekopjogaa
open Go Go.RowKit Mem Rc
set_option maxRecDepth 100000
set_option linter.unusedVariables false
set_option linter.unusedSimpArgs false

set_option maxHeartbeats 4000000 in
theorem rcheck_any (x : MD) (w : World) (hx : MOk w x) (hs : Small x) : Calls Try.prog 29 #[mVal x] w fun e w' => e = .returned (.bool (Rc.check x.m)) ∧ Below w.heap.size w w' := by
  have hb : Below w.heap.size w (w.alloc (.cells (mCells x) 30)) := (Below.refl _ _).alloc (Nat.le_refl _) _
  have hx1 := hx.below hb
  have hk : ∀ W, Below (w.alloc (.cells (mCells x) 30)).heap.size (w.alloc (.cells (mCells x) 30)) W → Blk W w.heap.size 30 (mCells x) := fun W h => (Blk.new w 30 (mCells x)).below h (by simp)
  have HX := Lib.hid (And.intro hb (And.intro hx1 hs))
  have HK := Lib.hid hk
  clear hb hx hx1 hs hk
  cases h0 : Rc.rows x.m.rows with
  | false =>
    have HV := Lib.hid (show Rc.check x.m = false by unfold Rc.check; rw [h0]; simp only [Bool.true_and, Bool.and_true, Bool.false_and, Bool.and_false])
    have H0 := Lib.hid h0
    clear h0
    go_enter Try.func29, Try.ntmps29
    go_wp2_with fail
    refine (rising_row x.rA x.rows.length x.rc x.rows _ HX.out.2.1.rows HX.out.2.2.rows HX.out.2.2.row).mono ?_
    rw [rows_eq x, H0.out]
    rintro e w1 ⟨rfl, hb0⟩
    have HB0 := Lib.hid (hb0)
    have c0 := (HK.out w1 HB0.out).cell 13
    clear hb0
    go_wp2_with fail
    go_ret
    exact ⟨by rw [HV.out]; rfl, HX.out.1.trans (HB0.out.mono HX.out.1.size)⟩
  | true =>
    cases h1 : Rc.dirty x.m.dirty with
    | false =>
      have HV := Lib.hid (show Rc.check x.m = false by unfold Rc.check; rw [h0, h1]; simp only [Bool.true_and, Bool.and_true, Bool.false_and, Bool.and_false])
      have H0 := Lib.hid h0
      have H1 := Lib.hid h1
      clear h0 h1
      go_enter Try.func29, Try.ntmps29
      go_wp2_with fail
      refine (rising_row x.rA x.rows.length x.rc x.rows _ HX.out.2.1.rows HX.out.2.2.rows HX.out.2.2.row).mono ?_
      rw [rows_eq x, H0.out]
      rintro e w1 ⟨rfl, hb0⟩
      have HB0 := Lib.hid (hb0)
      have c0 := (HK.out w1 HB0.out).cell 13
      clear hb0
      go_wp2_with fail
      refine (rising_dirty x.dA x.dirty.length x.dc x.dirty _ (HX.out.2.1.below HB0.out).dirty HX.out.2.2.dirty).mono ?_
      rw [show rising D.zero 64 dirtyOk (fun a b => decide (a.page < b.page)) x.dirty = _ from H1.out]
      rintro e w2 ⟨rfl, hb1⟩
      have HB1 := Lib.hid (HB0.out.trans (hb1.mono HB0.out.size))
      have c1 := (HK.out w2 HB1.out).cell 14
      clear hb1
      go_wp2_with fail
      go_ret
      exact ⟨by rw [HV.out]; rfl, HX.out.1.trans (HB1.out.mono HX.out.1.size)⟩
    | true =>
      cases h2 : Rc.deeds x.m.deeds with
      | false =>
        have HV := Lib.hid (show Rc.check x.m = false by unfold Rc.check; rw [h0, h1, h2]; simp only [Bool.true_and, Bool.and_true, Bool.false_and, Bool.and_false])
        have H0 := Lib.hid h0
        have H1 := Lib.hid h1
        have H2 := Lib.hid h2
        clear h0 h1 h2
        go_enter Try.func29, Try.ntmps29
        go_wp2_with fail
        refine (rising_row x.rA x.rows.length x.rc x.rows _ HX.out.2.1.rows HX.out.2.2.rows HX.out.2.2.row).mono ?_
        rw [rows_eq x, H0.out]
        rintro e w1 ⟨rfl, hb0⟩
        have HB0 := Lib.hid (hb0)
        have c0 := (HK.out w1 HB0.out).cell 13
        clear hb0
        go_wp2_with fail
        refine (rising_dirty x.dA x.dirty.length x.dc x.dirty _ (HX.out.2.1.below HB0.out).dirty HX.out.2.2.dirty).mono ?_
        rw [show rising D.zero 64 dirtyOk (fun a b => decide (a.page < b.page)) x.dirty = _ from H1.out]
        rintro e w2 ⟨rfl, hb1⟩
        have HB1 := Lib.hid (HB0.out.trans (hb1.mono HB0.out.size))
        have c1 := (HK.out w2 HB1.out).cell 14
        clear hb1
        go_wp2_with fail
        refine (rising_deed x.eA x.deeds.length x.ec x.deeds _ (HX.out.2.1.below HB1.out).deeds HX.out.2.2.deeds HX.out.2.2.deed).mono ?_
        rw [deeds_eq x, H2.out]
        rintro e w3 ⟨rfl, hb2⟩
        have HB2 := Lib.hid (HB1.out.trans (hb2.mono HB1.out.size))
        have c2 := (HK.out w3 HB2.out).cell 15
        clear hb2
        go_wp2_with fail
        go_ret
        exact ⟨by rw [HV.out]; rfl, HX.out.1.trans (HB2.out.mono HX.out.1.size)⟩
      | true =>
        have HV := Lib.hid (show Rc.check x.m = Rc.past x.m.past by unfold Rc.check; rw [h0, h1, h2]; simp only [Bool.true_and, Bool.and_true, Bool.false_and, Bool.and_false])
        have H0 := Lib.hid h0
        have H1 := Lib.hid h1
        have H2 := Lib.hid h2
        clear h0 h1 h2
        go_enter Try.func29, Try.ntmps29
        go_wp2_with fail
        refine (rising_row x.rA x.rows.length x.rc x.rows _ HX.out.2.1.rows HX.out.2.2.rows HX.out.2.2.row).mono ?_
        rw [rows_eq x, H0.out]
        rintro e w1 ⟨rfl, hb0⟩
        have HB0 := Lib.hid (hb0)
        have c0 := (HK.out w1 HB0.out).cell 13
        clear hb0
        go_wp2_with fail
        refine (rising_dirty x.dA x.dirty.length x.dc x.dirty _ (HX.out.2.1.below HB0.out).dirty HX.out.2.2.dirty).mono ?_
        rw [show rising D.zero 64 dirtyOk (fun a b => decide (a.page < b.page)) x.dirty = _ from H1.out]
        rintro e w2 ⟨rfl, hb1⟩
        have HB1 := Lib.hid (HB0.out.trans (hb1.mono HB0.out.size))
        have c1 := (HK.out w2 HB1.out).cell 14
        clear hb1
        go_wp2_with fail
        refine (rising_deed x.eA x.deeds.length x.ec x.deeds _ (HX.out.2.1.below HB1.out).deeds HX.out.2.2.deeds HX.out.2.2.deed).mono ?_
        rw [deeds_eq x, H2.out]
        rintro e w3 ⟨rfl, hb2⟩
        have HB2 := Lib.hid (HB1.out.trans (hb2.mono HB1.out.size))
        have c2 := (HK.out w3 HB2.out).cell 15
        clear hb2
        go_wp2_with fail
        refine (rising_past x.pA x.past.length x.pc x.past _ (HX.out.2.1.below HB2.out).past HX.out.2.2.past (by have := (HX.out.2.1.below HB2.out).pc; omega)).mono ?_
        rintro e w' ⟨rfl, rfl⟩
        go_wp2_with fail
        go_ret
        exact ⟨by rw [HV.out]; rfl, HX.out.1.trans (HB2.out.mono HX.out.1.size)⟩
end Go.Proofs.Ytlijfnekopjogaa

/- Which fields a kind hasn't: rec.wants. -/
namespace Go.Proofs.Ytlijfnekopjogaa
open Go Go.RowKit Mem Rc
set_option maxRecDepth 100000
set_option linter.unusedVariables false
set_option linter.unusedSimpArgs false

abbrev bareVal (b : Bare) : Value := .agg #[.bool b.prev, .bool b.next, .bool b.key, .bool b.old, .bool b.new, .bool b.coord, .bool b.members, .bool b.locks, .bool b.lists]
set_option maxHeartbeats 8000000 in
theorem wants_any (k : Int) (hk : Rc.kindOk k = true) (w : World) : Calls Try.prog 61 #[.int .i64 k] w fun e w' => e = .returned (bareVal (Rc.wants k)) ∧ Below w.heap.size w w' := by
  rcases kind_cases hk with rfl | rfl | rfl | rfl | rfl | rfl | rfl | rfl | rfl | rfl
  all_goals
    clear hk
    go_enter Try.func61, Try.ntmps61
    go_wp2
    exact bodyPost_ret (v := bareVal (Rc.wants _)) (by simp [results, Try.results61, go_sem]; try decide) rfl ⟨rfl, ((Below.refl _ _).alloc (Nat.le_refl _) _).alloc (by simp) _⟩
theorem sp_q {w1 : World} {g : Nat} {t : TypeId} {x : MD} (o1 o2 : Obj) (h : Blk w1 g t (mCells x)) (j : Nat) (v : Value) (hv : (mCells x)[j]? = some v) : ((w1.alloc o1).alloc o2).cell? ⟨g, j, none⟩ = some v :=
  cell_alloc_some' _ (cell_alloc_some' _ ((h.cell j).trans hv))
end Go.Proofs.Ytlijfnekopjogaa
