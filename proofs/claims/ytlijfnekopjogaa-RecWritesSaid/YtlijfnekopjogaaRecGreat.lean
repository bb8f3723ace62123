/- More than is asked?: the document's (printed by gen_great.py). -/
import Derived.Test.YtlijfnekopjogaaRecSames
namespace Go.Proofs.Ytlijfnekopjogaa
open Go Go.RowKit Mem Rc
set_option maxRecDepth 100000
set_option linter.unusedVariables false
set_option linter.unusedSimpArgs false

/-- as much as is asked -/
structure NotGreat (x : MD) : Prop where
  mem : x.mem.length ≤ 20
  locks : x.locks.length ≤ 80
  rows : x.rows.length ≤ 70
  dirty : x.dirty.length ≤ 80
  deeds : x.deeds.length ≤ 80
  past : x.past.length ≤ 300
  key : x.key.size ≤ 100
  old : x.old.data.size ≤ 100
  new : x.new.data.size ≤ 100
  row : ∀ k, k < x.rows.length → (x.rows.getD k RwD.zero).r.mem.length ≤ 20 ∧ (x.rows.getD k RwD.zero).r.locks.length ≤ 80
  deed : ∀ k, k < x.deeds.length → (x.deeds.getD k DeD.zero).d.mem.length ≤ 20
theorem NotGreat.small {x : MD} (h : NotGreat x) : Small x :=
  ⟨by have := h.mem; omega, by have := h.locks; omega, by have := h.rows; omega, by have := h.dirty; omega, by have := h.deeds; omega, by have := h.past; omega, fun k hk => by have := h.row k hk; omega, fun k hk => by have := h.deed k hk; omega⟩
def GreatP (w : World) (x : MD) (e : Ending) (w' : World) : Prop := ∃ g, e = .returned (.bool g) ∧ Below w.heap.size w w' ∧ (g = false → NotGreat x)
set_option maxHeartbeats 4000000 in
theorem great_0 (x : MD) (h0 : decide ((20 : Int) < (x.mem.length : Int)) = true) (w : World) : Calls Try.prog 8 #[mVal x] w (GreatP w x) := by
  have HB := Lib.hid (show Below w.heap.size w (w.alloc (.cells (mCells x) 30)) from (Below.refl _ _).alloc (Nat.le_refl _) _)
  go_enter Try.func8, Try.ntmps8
  go_wp2
  go_ret
  exact ⟨true, rfl, HB.out, fun h => by cases h⟩
set_option maxHeartbeats 4000000 in
theorem great_1 (x : MD) (h0 : decide ((20 : Int) < (x.mem.length : Int)) = false) (h1 : decide ((80 : Int) < (x.locks.length : Int)) = true) (w : World) : Calls Try.prog 8 #[mVal x] w (GreatP w x) := by
  have HB := Lib.hid (show Below w.heap.size w (w.alloc (.cells (mCells x) 30)) from (Below.refl _ _).alloc (Nat.le_refl _) _)
  go_enter Try.func8, Try.ntmps8
  go_wp2
  go_ret
  exact ⟨true, rfl, HB.out, fun h => by cases h⟩
set_option maxHeartbeats 4000000 in
theorem great_2 (x : MD) (h0 : decide ((20 : Int) < (x.mem.length : Int)) = false) (h1 : decide ((80 : Int) < (x.locks.length : Int)) = false) (h2 : decide ((70 : Int) < (x.rows.length : Int)) = true) (w : World) : Calls Try.prog 8 #[mVal x] w (GreatP w x) := by
  have HB := Lib.hid (show Below w.heap.size w (w.alloc (.cells (mCells x) 30)) from (Below.refl _ _).alloc (Nat.le_refl _) _)
  go_enter Try.func8, Try.ntmps8
  go_wp2
  go_ret
  exact ⟨true, rfl, HB.out, fun h => by cases h⟩
set_option maxHeartbeats 4000000 in
theorem great_3 (x : MD) (h0 : decide ((20 : Int) < (x.mem.length : Int)) = false) (h1 : decide ((80 : Int) < (x.locks.length : Int)) = false) (h2 : decide ((70 : Int) < (x.rows.length : Int)) = false) (h3 : decide ((80 : Int) < (x.dirty.length : Int)) = true) (w : World) : Calls Try.prog 8 #[mVal x] w (GreatP w x) := by
  have HB := Lib.hid (show Below w.heap.size w (w.alloc (.cells (mCells x) 30)) from (Below.refl _ _).alloc (Nat.le_refl _) _)
  go_enter Try.func8, Try.ntmps8
  go_wp2
  go_ret
  exact ⟨true, rfl, HB.out, fun h => by cases h⟩
set_option maxHeartbeats 4000000 in
theorem great_4 (x : MD) (h0 : decide ((20 : Int) < (x.mem.length : Int)) = false) (h1 : decide ((80 : Int) < (x.locks.length : Int)) = false) (h2 : decide ((70 : Int) < (x.rows.length : Int)) = false) (h3 : decide ((80 : Int) < (x.dirty.length : Int)) = false) (h4 : decide ((80 : Int) < (x.deeds.length : Int)) = true) (w : World) : Calls Try.prog 8 #[mVal x] w (GreatP w x) := by
  have HB := Lib.hid (show Below w.heap.size w (w.alloc (.cells (mCells x) 30)) from (Below.refl _ _).alloc (Nat.le_refl _) _)
  go_enter Try.func8, Try.ntmps8
  go_wp2
  go_ret
  exact ⟨true, rfl, HB.out, fun h => by cases h⟩
set_option maxHeartbeats 4000000 in
theorem great_5 (x : MD) (h0 : decide ((20 : Int) < (x.mem.length : Int)) = false) (h1 : decide ((80 : Int) < (x.locks.length : Int)) = false) (h2 : decide ((70 : Int) < (x.rows.length : Int)) = false) (h3 : decide ((80 : Int) < (x.dirty.length : Int)) = false) (h4 : decide ((80 : Int) < (x.deeds.length : Int)) = false) (h5 : decide ((300 : Int) < (x.past.length : Int)) = true) (w : World) : Calls Try.prog 8 #[mVal x] w (GreatP w x) := by
  have HB := Lib.hid (show Below w.heap.size w (w.alloc (.cells (mCells x) 30)) from (Below.refl _ _).alloc (Nat.le_refl _) _)
  go_enter Try.func8, Try.ntmps8
  go_wp2
  go_ret
  exact ⟨true, rfl, HB.out, fun h => by cases h⟩
set_option maxHeartbeats 4000000 in
theorem great_6 (x : MD) (h0 : decide ((20 : Int) < (x.mem.length : Int)) = false) (h1 : decide ((80 : Int) < (x.locks.length : Int)) = false) (h2 : decide ((70 : Int) < (x.rows.length : Int)) = false) (h3 : decide ((80 : Int) < (x.dirty.length : Int)) = false) (h4 : decide ((80 : Int) < (x.deeds.length : Int)) = false) (h5 : decide ((300 : Int) < (x.past.length : Int)) = false) (h6 : decide ((100 : Int) < (x.key.size : Int)) = true) (w : World) : Calls Try.prog 8 #[mVal x] w (GreatP w x) := by
  have HB := Lib.hid (show Below w.heap.size w (w.alloc (.cells (mCells x) 30)) from (Below.refl _ _).alloc (Nat.le_refl _) _)
  go_enter Try.func8, Try.ntmps8
  go_wp2
  go_ret
  exact ⟨true, rfl, HB.out, fun h => by cases h⟩
set_option maxHeartbeats 4000000 in
theorem great_7 (x : MD) (h0 : decide ((20 : Int) < (x.mem.length : Int)) = false) (h1 : decide ((80 : Int) < (x.locks.length : Int)) = false) (h2 : decide ((70 : Int) < (x.rows.length : Int)) = false) (h3 : decide ((80 : Int) < (x.dirty.length : Int)) = false) (h4 : decide ((80 : Int) < (x.deeds.length : Int)) = false) (h5 : decide ((300 : Int) < (x.past.length : Int)) = false) (h6 : decide ((100 : Int) < (x.key.size : Int)) = false) (h7 : decide ((100 : Int) < (x.old.data.size : Int)) = true) (w : World) : Calls Try.prog 8 #[mVal x] w (GreatP w x) := by
  have HB := Lib.hid (show Below w.heap.size w (w.alloc (.cells (mCells x) 30)) from (Below.refl _ _).alloc (Nat.le_refl _) _)
  go_enter Try.func8, Try.ntmps8
  go_wp2
  go_ret
  exact ⟨true, rfl, HB.out, fun h => by cases h⟩
set_option maxHeartbeats 4000000 in
theorem great_8 (x : MD) (h0 : decide ((20 : Int) < (x.mem.length : Int)) = false) (h1 : decide ((80 : Int) < (x.locks.length : Int)) = false) (h2 : decide ((70 : Int) < (x.rows.length : Int)) = false) (h3 : decide ((80 : Int) < (x.dirty.length : Int)) = false) (h4 : decide ((80 : Int) < (x.deeds.length : Int)) = false) (h5 : decide ((300 : Int) < (x.past.length : Int)) = false) (h6 : decide ((100 : Int) < (x.key.size : Int)) = false) (h7 : decide ((100 : Int) < (x.old.data.size : Int)) = false) (h8 : decide ((100 : Int) < (x.new.data.size : Int)) = true) (w : World) : Calls Try.prog 8 #[mVal x] w (GreatP w x) := by
  have HB := Lib.hid (show Below w.heap.size w (w.alloc (.cells (mCells x) 30)) from (Below.refl _ _).alloc (Nat.le_refl _) _)
  go_enter Try.func8, Try.ntmps8
  go_wp2
  go_ret
  exact ⟨true, rfl, HB.out, fun h => by cases h⟩
set_option maxHeartbeats 8000000 in
theorem great_loops (x : MD) (h0 : decide ((20 : Int) < (x.mem.length : Int)) = false) (h1 : decide ((80 : Int) < (x.locks.length : Int)) = false) (h2 : decide ((70 : Int) < (x.rows.length : Int)) = false) (h3 : decide ((80 : Int) < (x.dirty.length : Int)) = false) (h4 : decide ((80 : Int) < (x.deeds.length : Int)) = false) (h5 : decide ((300 : Int) < (x.past.length : Int)) = false) (h6 : decide ((100 : Int) < (x.key.size : Int)) = false) (h7 : decide ((100 : Int) < (x.old.data.size : Int)) = false) (h8 : decide ((100 : Int) < (x.new.data.size : Int)) = false) (w : World) (hok : MOk w x) : Calls Try.prog 8 #[mVal x] w (GreatP w x) := by
  obtain ⟨W, hW⟩ : ∃ W, w.alloc (.cells (mCells x) 30) = W := ⟨_, rfl⟩
  have hb : Below w.heap.size w W := by rw [← hW]; exact (Below.refl _ _).alloc (Nat.le_refl _) _
  have hr : Blk W w.heap.size 30 (mCells x) := by rw [← hW]; exact Blk.new _ _ _
  have b0 := of_decide_eq_false h0
  have b1 := of_decide_eq_false h1
  have b2 := of_decide_eq_false h2
  have b3 := of_decide_eq_false h3
  have b4 := of_decide_eq_false h4
  have b5 := of_decide_eq_false h5
  have b6 := of_decide_eq_false h6
  have b7 := of_decide_eq_false h7
  have b8 := of_decide_eq_false h8
  have hlk := hok.lc
  have hrk := hok.rc
  have hek := hok.ec
  have hng : (∀ k, k < x.rows.length → (x.rows.getD k RwD.zero).r.mem.length ≤ 20 ∧ (x.rows.getD k RwD.zero).r.locks.length ≤ 80) → (∀ k, k < x.deeds.length → (x.deeds.getD k DeD.zero).d.mem.length ≤ 20) → NotGreat x := fun hrow hdeed => ⟨by omega, by omega, by omega, by omega, by omega, by omega, by omega, by omega, by omega, hrow, hdeed⟩
  have okl := (hok.below hb).locks
  have okr := (hok.below hb).rows
  have oke := (hok.below hb).deeds
  obtain ⟨nl, hnl⟩ : ∃ nl, x.locks.length = nl := ⟨_, rfl⟩
  obtain ⟨nr, hnr⟩ : ∃ nr, x.rows.length = nr := ⟨_, rfl⟩
  obtain ⟨ne, hne⟩ : ∃ ne, x.deeds.length = ne := ⟨_, rfl⟩
  rw [hnl] at okl h1 hlk
  rw [hnr] at okr h2 hng hrk
  rw [hne] at oke h4 hng hek
  have H := Lib.hid (And.intro hb (And.intro okl (And.intro okr (And.intro oke (And.intro hng (And.intro (show nl ≤ 9223372036854775807 by omega) (And.intro (show nr ≤ 9223372036854775807 by omega) (show ne ≤ 9223372036854775807 by omega))))))))
  have c10 : W.cell? ⟨w.heap.size, 10, none⟩ = some (.slice x.mA x.mem.length x.mc) := hr.cell 10
  have c11 : W.cell? ⟨w.heap.size, 11, none⟩ = some (.slice x.lA nl x.lc) := (hr.cell 11).trans (by rw [← hnl]; rfl)
  have c12 : W.cell? ⟨w.heap.size, 12, none⟩ = some (.slice x.rA nr x.rc) := (hr.cell 12).trans (by rw [← hnr]; rfl)
  have c13 : W.cell? ⟨w.heap.size, 13, none⟩ = some (.slice x.dA x.dirty.length x.dc) := hr.cell 13
  have c14 : W.cell? ⟨w.heap.size, 14, none⟩ = some (.slice x.eA ne x.ec) := (hr.cell 14).trans (by rw [← hne]; rfl)
  have c15 : W.cell? ⟨w.heap.size, 15, none⟩ = some (.slice x.pA x.past.length x.pc) := hr.cell 15
  have c4 : W.cell? ⟨w.heap.size, 4, none⟩ = some (.string x.key) := hr.cell 4
  have c6 : W.cell? ⟨w.heap.size, 6, none⟩ = some (.string x.old.data) := hr.cell 6
  have c8 : W.cell? ⟨w.heap.size, 8, none⟩ = some (.string x.new.data) := hr.cell 8
  clear hok hb hr b0 b1 b2 b3 b4 b5 b6 b7 b8 hlk hrk hek hng okl okr oke hnl hnr hne
  go_enter Try.func8, Try.ntmps8
  go_wp2
  clear h0 h1 h2 h3 h4 h5 h6 h7 h8 c10 c13 c15 c4 c6 c8
  go_loopg [2, 3] nl (fun gk s i wr => ∃ k : Nat, k ≤ nl ∧ gk = nl - k ∧ s = .bool false ∧ i = .int .i64 k ∧ wr = W)
  case atStart => exact ⟨0, by omega, by omega, rfl, rfl, rfl⟩
  case round =>
    obtain ⟨k, hk, rfl, rfl, rfl, hww⟩ := hrel
    obtain rfl : W = wr := hww.symm
    by_cases hlt : k < nl
    · obtain ⟨b, off, hA, _, a0, a1⟩ := lock_at H.out.2.1 hlt
      rw [hA] at c11
      have hki : (k : Int) < (nl : Int) := by omega
      clear hA
      generalize x.locks.getD k L.zero = xl at *
      cases hg : decide ((100 : Int) < (xl.key.size : Int)) with
      | true =>
        go_wp2
        go_ret
        exact ⟨true, rfl, H.out.1, fun h => by cases h⟩
      | false =>
        go_wp2
        go_roundg (nl - (k + 1))
        case rel => exact ⟨k + 1, by omega, by omega, rfl, congrArg (Value.int .i64) (by have := H.out.2.2.2.2.2.1; unfold wrap64; omega), rfl⟩
        case measure => omega
    · obtain rfl : k = nl := by omega
      go_wp2
      go_loopg [2, 4] nr (fun gk s i wr => ∃ k : Nat, k ≤ nr ∧ gk = nr - k ∧ s = .bool false ∧ i = .int .i64 k ∧ (∀ j, j < k → (x.rows.getD j RwD.zero).r.mem.length ≤ 20 ∧ (x.rows.getD j RwD.zero).r.locks.length ≤ 80) ∧ wr = W)
      case atStart => exact ⟨0, by omega, by omega, rfl, rfl, fun j hj => absurd hj (by omega), rfl⟩
      case round =>
        obtain ⟨k2, hk2, rfl, rfl, rfl, hall, hww⟩ := hrel
        obtain rfl : W = wr := hww.symm
        by_cases hlt2 : k2 < nr
        · obtain ⟨b, off, hA, _, _, _, _, _, _, _, a6, a7, _⟩ := row_at H.out.2.2.1 hlt2
          rw [hA] at c12
          have hki : (k2 : Int) < (nr : Int) := by omega
          have HA := Lib.hid hall
          clear hA hall
          obtain ⟨xr, hxr⟩ : ∃ xr, x.rows.getD k2 RwD.zero = xr := ⟨_, rfl⟩
          rw [hxr] at a6 a7
          have HX := Lib.hid hxr
          clear hxr
          cases hg : decide ((20 : Int) < (xr.r.mem.length : Int)) with
          | true =>
            go_wp2
            go_ret
            exact ⟨true, rfl, H.out.1, fun h => by cases h⟩
          | false =>
            cases hg2 : decide ((80 : Int) < (xr.r.locks.length : Int)) with
            | true =>
              go_wp2
              go_ret
              exact ⟨true, rfl, H.out.1, fun h => by cases h⟩
            | false =>
              have HG := Lib.hid (And.intro (of_decide_eq_false hg) (of_decide_eq_false hg2))
              go_wp2
              go_roundg (nr - (k2 + 1))
              case rel =>
                refine ⟨k2 + 1, by omega, by omega, rfl, congrArg (Value.int .i64) (by have := H.out.2.2.2.2.2.2.1; unfold wrap64; omega), fun j hj => ?_, rfl⟩
                by_cases hjk : j < k2
                · exact HA.out j hjk
                · obtain rfl : j = k2 := by omega
                  rw [HX.out]
                  exact ⟨by have := HG.out.1; omega, by have := HG.out.2; omega⟩
              case measure => omega
        · obtain rfl : k2 = nr := by omega
          have HA := Lib.hid hall
          clear hall
          go_wp2
          go_loopg [2, 5] ne (fun gk s i wr => ∃ k : Nat, k ≤ ne ∧ gk = ne - k ∧ s = .bool false ∧ i = .int .i64 k ∧ (∀ j, j < k → (x.deeds.getD j DeD.zero).d.mem.length ≤ 20) ∧ wr = W)
          case atStart => exact ⟨0, by omega, by omega, rfl, rfl, fun j hj => absurd hj (by omega), rfl⟩
          case round =>
            obtain ⟨k3, hk3, rfl, rfl, rfl, hall, hww⟩ := hrel
            obtain rfl : W = wr := hww.symm
            by_cases hlt3 : k3 < ne
            · obtain ⟨b, off, hA, _, _, a1, _⟩ := deed_at H.out.2.2.2.1 hlt3
              rw [hA] at c14
              have hki : (k3 : Int) < (ne : Int) := by omega
              have HA3 := Lib.hid hall
              clear hA hall
              obtain ⟨xe, hxe⟩ : ∃ xe, x.deeds.getD k3 DeD.zero = xe := ⟨_, rfl⟩
              rw [hxe] at a1
              have HX := Lib.hid hxe
              clear hxe
              cases hg : decide ((20 : Int) < (xe.d.mem.length : Int)) with
              | true =>
                go_wp2
                go_ret
                exact ⟨true, rfl, H.out.1, fun h => by cases h⟩
              | false =>
                have HG := Lib.hid (of_decide_eq_false hg)
                go_wp2
                go_roundg (ne - (k3 + 1))
                case rel =>
                  refine ⟨k3 + 1, by omega, by omega, rfl, congrArg (Value.int .i64) (by have := H.out.2.2.2.2.2.2.2; unfold wrap64; omega), fun j hj => ?_, rfl⟩
                  by_cases hjk : j < k3
                  · exact HA3.out j hjk
                  · obtain rfl : j = k3 := by omega
                    rw [HX.out]
                    have := HG.out
                    omega
                case measure => omega
            · obtain rfl : k3 = ne := by omega
              have HA3 := Lib.hid hall
              clear hall
              go_wp2
              go_ret
              exact ⟨false, rfl, H.out.1, fun _ => H.out.2.2.2.2.1 HA.out HA3.out⟩
theorem great_any (x : MD) (w : World) (hok : MOk w x) : Calls Try.prog 8 #[mVal x] w (GreatP w x) := by
  cases h0 : decide ((20 : Int) < (x.mem.length : Int)) with
  | true => exact great_0 x h0 w
  | false =>
    cases h1 : decide ((80 : Int) < (x.locks.length : Int)) with
    | true => exact great_1 x h0 h1 w
    | false =>
      cases h2 : decide ((70 : Int) < (x.rows.length : Int)) with
      | true => exact great_2 x h0 h1 h2 w
      | false =>
        cases h3 : decide ((80 : Int) < (x.dirty.length : Int)) with
        | true => exact great_3 x h0 h1 h2 h3 w
        | false =>
          cases h4 : decide ((80 : Int) < (x.deeds.length : Int)) with
          | true => exact great_4 x h0 h1 h2 h3 h4 w
          | false =>
            cases h5 : decide ((300 : Int) < (x.past.length : Int)) with
            | true => exact great_5 x h0 h1 h2 h3 h4 h5 w
            | false =>
              cases h6 : decide ((100 : Int) < (x.key.size : Int)) with
              | true => exact great_6 x h0 h1 h2 h3 h4 h5 h6 w
              | false =>
                cases h7 : decide ((100 : Int) < (x.old.data.size : Int)) with
                | true => exact great_7 x h0 h1 h2 h3 h4 h5 h6 h7 w
                | false =>
                  cases h8 : decide ((100 : Int) < (x.new.data.size : Int)) with
                  | true => exact great_8 x h0 h1 h2 h3 h4 h5 h6 h7 h8 w
                  | false =>
                    exact great_loops x h0 h1 h2 h3 h4 h5 h6 h7 h8 w hok
end Go.Proofs.Ytlijfnekopjogaa
