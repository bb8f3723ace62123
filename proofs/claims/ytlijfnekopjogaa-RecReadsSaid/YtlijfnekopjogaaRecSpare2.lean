/- Whether a record has something that its kind hasn't: rec.spare (printed by gen_spare.py). -/
import Derived.Test.YtlijfnekopjogaaRecChecks
namespace Go.Proofs.Ytlijfnekopjogaa
open Go Go.RowKit Mem Rc
set_option maxRecDepth 100000
set_option linter.unusedVariables false
set_option linter.unusedSimpArgs false

set_option maxHeartbeats 8000000 in
theorem spare_e1 (x : MD) (hw : ∀ W, Calls Try.prog 61 #[.int .i64 x.kind] W fun e w' => e = .returned (.agg #[.bool false, .bool true, .bool true, .bool true, .bool true, .bool true, .bool true, .bool true, .bool true]) ∧ Below W.heap.size W w') (h1 : (x.nxt != 0) = true) (w : World) : Calls Try.prog 28 #[mVal x] w fun e w' => e = .returned (.bool true) ∧ Below w.heap.size w w' := by
  have hb : Below w.heap.size w (w.alloc (.cells (mCells x) 30)) := (Below.refl _ _).alloc (Nat.le_refl _) _
  have HX := Lib.hid hb
  clear hb
  have HW := Lib.hid hw
  clear hw
  have hk : ∀ W, Below (w.alloc (.cells (mCells x) 30)).heap.size (w.alloc (.cells (mCells x) 30)) W → Blk W w.heap.size 30 (mCells x) := fun W h => (Blk.new w 30 (mCells x)).below h (by simp)
  have HK := Lib.hid hk
  clear hk
  go_enter Try.func28, Try.ntmps28
  dsimp only [List.append]
  go_wp2_with fail
  refine (HW.out _).mono ?_
  rintro e w1 ⟨rfl, hb1⟩
  have HB := Lib.hid hb1
  have hlt : w.heap.size < w1.heap.size := Nat.lt_of_lt_of_le (by simp) hb1.size
  have q := sp_q (.cells #[.bool false, .bool true, .bool true, .bool true, .bool true, .bool true, .bool true, .bool true, .bool true] 94) (.cells #[.bool false, .string ⟨#[]⟩] 23) (HK.out _ hb1)
  have c3 := q 3 (.int .i64 x.nxt) rfl
  clear q
  clear hb1
  go_wp2_with fail
  go_ret
  exact ⟨rfl, HX.out.trans ((HB.out.mono HX.out.size).trans (((Below.refl _ _).alloc (Nat.le_of_lt hlt) _).alloc (Nat.le_trans (Nat.le_of_lt hlt) (by simp)) _))⟩
set_option maxHeartbeats 8000000 in
theorem spare_e2 (x : MD) (hw : ∀ W, Calls Try.prog 61 #[.int .i64 x.kind] W fun e w' => e = .returned (.agg #[.bool false, .bool true, .bool true, .bool true, .bool true, .bool true, .bool true, .bool true, .bool true]) ∧ Below W.heap.size W w') (h1 : (x.nxt != 0) = false) (h2 : (!x.key.toList.isEmpty) = true) (w : World) : Calls Try.prog 28 #[mVal x] w fun e w' => e = .returned (.bool true) ∧ Below w.heap.size w w' := by
  have hb : Below w.heap.size w (w.alloc (.cells (mCells x) 30)) := (Below.refl _ _).alloc (Nat.le_refl _) _
  have HX := Lib.hid hb
  clear hb
  have HW := Lib.hid hw
  clear hw
  have hk : ∀ W, Below (w.alloc (.cells (mCells x) 30)).heap.size (w.alloc (.cells (mCells x) 30)) W → Blk W w.heap.size 30 (mCells x) := fun W h => (Blk.new w 30 (mCells x)).below h (by simp)
  have HK := Lib.hid hk
  clear hk
  go_enter Try.func28, Try.ntmps28
  dsimp only [List.append]
  go_wp2_with fail
  refine (HW.out _).mono ?_
  rintro e w1 ⟨rfl, hb1⟩
  have HB := Lib.hid hb1
  have hlt : w.heap.size < w1.heap.size := Nat.lt_of_lt_of_le (by simp) hb1.size
  have q := sp_q (.cells #[.bool false, .bool true, .bool true, .bool true, .bool true, .bool true, .bool true, .bool true, .bool true] 94) (.cells #[.bool false, .string ⟨#[]⟩] 23) (HK.out _ hb1)
  have c3 := q 3 (.int .i64 x.nxt) rfl
  have c4 := q 4 (.string x.key) rfl
  clear q
  clear hb1
  go_wp2_with fail
  go_ret
  exact ⟨rfl, HX.out.trans ((HB.out.mono HX.out.size).trans (((Below.refl _ _).alloc (Nat.le_of_lt hlt) _).alloc (Nat.le_trans (Nat.le_of_lt hlt) (by simp)) _))⟩
set_option maxHeartbeats 8000000 in
theorem spare_e3 (x : MD) (hw : ∀ W, Calls Try.prog 61 #[.int .i64 x.kind] W fun e w' => e = .returned (.agg #[.bool false, .bool true, .bool true, .bool true, .bool true, .bool true, .bool true, .bool true, .bool true]) ∧ Below W.heap.size W w') (h1 : (x.nxt != 0) = false) (h2 : (!x.key.toList.isEmpty) = false) (h3a : x.old.has = true) (w : World) : Calls Try.prog 28 #[mVal x] w fun e w' => e = .returned (.bool true) ∧ Below w.heap.size w w' := by
  have hb : Below w.heap.size w (w.alloc (.cells (mCells x) 30)) := (Below.refl _ _).alloc (Nat.le_refl _) _
  have HX := Lib.hid hb
  clear hb
  have HW := Lib.hid hw
  clear hw
  have hk : ∀ W, Below (w.alloc (.cells (mCells x) 30)).heap.size (w.alloc (.cells (mCells x) 30)) W → Blk W w.heap.size 30 (mCells x) := fun W h => (Blk.new w 30 (mCells x)).below h (by simp)
  have HK := Lib.hid hk
  clear hk
  go_enter Try.func28, Try.ntmps28
  dsimp only [List.append]
  go_wp2_with fail
  refine (HW.out _).mono ?_
  rintro e w1 ⟨rfl, hb1⟩
  have HB := Lib.hid hb1
  have hlt : w.heap.size < w1.heap.size := Nat.lt_of_lt_of_le (by simp) hb1.size
  have q := sp_q (.cells #[.bool false, .bool true, .bool true, .bool true, .bool true, .bool true, .bool true, .bool true, .bool true] 94) (.cells #[.bool false, .string ⟨#[]⟩] 23) (HK.out _ hb1)
  have c3 := q 3 (.int .i64 x.nxt) rfl
  have c4 := q 4 (.string x.key) rfl
  have c5 := q 5 (.bool x.old.has) rfl
  have c6 := q 6 (.string x.old.data) rfl
  clear q
  clear hb1
  go_wp2_with fail
  go_ret
  exact ⟨rfl, HX.out.trans ((HB.out.mono HX.out.size).trans (((Below.refl _ _).alloc (Nat.le_of_lt hlt) _).alloc (Nat.le_trans (Nat.le_of_lt hlt) (by simp)) _))⟩
set_option maxHeartbeats 8000000 in
theorem spare_e3b (x : MD) (hw : ∀ W, Calls Try.prog 61 #[.int .i64 x.kind] W fun e w' => e = .returned (.agg #[.bool false, .bool true, .bool true, .bool true, .bool true, .bool true, .bool true, .bool true, .bool true]) ∧ Below W.heap.size W w') (h1 : (x.nxt != 0) = false) (h2 : (!x.key.toList.isEmpty) = false) (h3a : x.old.has = false) (h3b : x.old.data.toList.isEmpty = false) (w : World) : Calls Try.prog 28 #[mVal x] w fun e w' => e = .returned (.bool true) ∧ Below w.heap.size w w' := by
  have hb : Below w.heap.size w (w.alloc (.cells (mCells x) 30)) := (Below.refl _ _).alloc (Nat.le_refl _) _
  have HX := Lib.hid hb
  clear hb
  have HW := Lib.hid hw
  clear hw
  have hk : ∀ W, Below (w.alloc (.cells (mCells x) 30)).heap.size (w.alloc (.cells (mCells x) 30)) W → Blk W w.heap.size 30 (mCells x) := fun W h => (Blk.new w 30 (mCells x)).below h (by simp)
  have HK := Lib.hid hk
  clear hk
  go_enter Try.func28, Try.ntmps28
  dsimp only [List.append]
  go_wp2_with fail
  refine (HW.out _).mono ?_
  rintro e w1 ⟨rfl, hb1⟩
  have HB := Lib.hid hb1
  have hlt : w.heap.size < w1.heap.size := Nat.lt_of_lt_of_le (by simp) hb1.size
  have q := sp_q (.cells #[.bool false, .bool true, .bool true, .bool true, .bool true, .bool true, .bool true, .bool true, .bool true] 94) (.cells #[.bool false, .string ⟨#[]⟩] 23) (HK.out _ hb1)
  have c3 := q 3 (.int .i64 x.nxt) rfl
  have c4 := q 4 (.string x.key) rfl
  have c5 := q 5 (.bool x.old.has) rfl
  have c6 := q 6 (.string x.old.data) rfl
  clear q
  clear hb1
  go_wp2_with fail
  go_ret
  exact ⟨rfl, HX.out.trans ((HB.out.mono HX.out.size).trans (((Below.refl _ _).alloc (Nat.le_of_lt hlt) _).alloc (Nat.le_trans (Nat.le_of_lt hlt) (by simp)) _))⟩
set_option maxHeartbeats 8000000 in
theorem spare_e4 (x : MD) (hw : ∀ W, Calls Try.prog 61 #[.int .i64 x.kind] W fun e w' => e = .returned (.agg #[.bool false, .bool true, .bool true, .bool true, .bool true, .bool true, .bool true, .bool true, .bool true]) ∧ Below W.heap.size W w') (h1 : (x.nxt != 0) = false) (h2 : (!x.key.toList.isEmpty) = false) (h3a : x.old.has = false) (h3b : x.old.data.toList.isEmpty = true) (h4a : x.new.has = true) (w : World) : Calls Try.prog 28 #[mVal x] w fun e w' => e = .returned (.bool true) ∧ Below w.heap.size w w' := by
  have hb : Below w.heap.size w (w.alloc (.cells (mCells x) 30)) := (Below.refl _ _).alloc (Nat.le_refl _) _
  have HX := Lib.hid hb
  clear hb
  have HW := Lib.hid hw
  clear hw
  have hk : ∀ W, Below (w.alloc (.cells (mCells x) 30)).heap.size (w.alloc (.cells (mCells x) 30)) W → Blk W w.heap.size 30 (mCells x) := fun W h => (Blk.new w 30 (mCells x)).below h (by simp)
  have HK := Lib.hid hk
  clear hk
  go_enter Try.func28, Try.ntmps28
  dsimp only [List.append]
  go_wp2_with fail
  refine (HW.out _).mono ?_
  rintro e w1 ⟨rfl, hb1⟩
  have HB := Lib.hid hb1
  have hlt : w.heap.size < w1.heap.size := Nat.lt_of_lt_of_le (by simp) hb1.size
  have q := sp_q (.cells #[.bool false, .bool true, .bool true, .bool true, .bool true, .bool true, .bool true, .bool true, .bool true] 94) (.cells #[.bool false, .string ⟨#[]⟩] 23) (HK.out _ hb1)
  have c3 := q 3 (.int .i64 x.nxt) rfl
  have c4 := q 4 (.string x.key) rfl
  have c5 := q 5 (.bool x.old.has) rfl
  have c6 := q 6 (.string x.old.data) rfl
  have c7 := q 7 (.bool x.new.has) rfl
  have c8 := q 8 (.string x.new.data) rfl
  clear q
  clear hb1
  go_wp2_with fail
  go_ret
  exact ⟨rfl, HX.out.trans ((HB.out.mono HX.out.size).trans (((Below.refl _ _).alloc (Nat.le_of_lt hlt) _).alloc (Nat.le_trans (Nat.le_of_lt hlt) (by simp)) _))⟩
set_option maxHeartbeats 8000000 in
theorem spare_e4b (x : MD) (hw : ∀ W, Calls Try.prog 61 #[.int .i64 x.kind] W fun e w' => e = .returned (.agg #[.bool false, .bool true, .bool true, .bool true, .bool true, .bool true, .bool true, .bool true, .bool true]) ∧ Below W.heap.size W w') (h1 : (x.nxt != 0) = false) (h2 : (!x.key.toList.isEmpty) = false) (h3a : x.old.has = false) (h3b : x.old.data.toList.isEmpty = true) (h4a : x.new.has = false) (h4b : x.new.data.toList.isEmpty = false) (w : World) : Calls Try.prog 28 #[mVal x] w fun e w' => e = .returned (.bool true) ∧ Below w.heap.size w w' := by
  have hb : Below w.heap.size w (w.alloc (.cells (mCells x) 30)) := (Below.refl _ _).alloc (Nat.le_refl _) _
  have HX := Lib.hid hb
  clear hb
  have HW := Lib.hid hw
  clear hw
  have hk : ∀ W, Below (w.alloc (.cells (mCells x) 30)).heap.size (w.alloc (.cells (mCells x) 30)) W → Blk W w.heap.size 30 (mCells x) := fun W h => (Blk.new w 30 (mCells x)).below h (by simp)
  have HK := Lib.hid hk
  clear hk
  go_enter Try.func28, Try.ntmps28
  dsimp only [List.append]
  go_wp2_with fail
  refine (HW.out _).mono ?_
  rintro e w1 ⟨rfl, hb1⟩
  have HB := Lib.hid hb1
  have hlt : w.heap.size < w1.heap.size := Nat.lt_of_lt_of_le (by simp) hb1.size
  have q := sp_q (.cells #[.bool false, .bool true, .bool true, .bool true, .bool true, .bool true, .bool true, .bool true, .bool true] 94) (.cells #[.bool false, .string ⟨#[]⟩] 23) (HK.out _ hb1)
  have c3 := q 3 (.int .i64 x.nxt) rfl
  have c4 := q 4 (.string x.key) rfl
  have c5 := q 5 (.bool x.old.has) rfl
  have c6 := q 6 (.string x.old.data) rfl
  have c7 := q 7 (.bool x.new.has) rfl
  have c8 := q 8 (.string x.new.data) rfl
  clear q
  clear hb1
  go_wp2_with fail
  go_ret
  exact ⟨rfl, HX.out.trans ((HB.out.mono HX.out.size).trans (((Below.refl _ _).alloc (Nat.le_of_lt hlt) _).alloc (Nat.le_trans (Nat.le_of_lt hlt) (by simp)) _))⟩
set_option maxHeartbeats 8000000 in
theorem spare_e5 (x : MD) (hw : ∀ W, Calls Try.prog 61 #[.int .i64 x.kind] W fun e w' => e = .returned (.agg #[.bool false, .bool true, .bool true, .bool true, .bool true, .bool true, .bool true, .bool true, .bool true]) ∧ Below W.heap.size W w') (h1 : (x.nxt != 0) = false) (h2 : (!x.key.toList.isEmpty) = false) (h3a : x.old.has = false) (h3b : x.old.data.toList.isEmpty = true) (h4a : x.new.has = false) (h4b : x.new.data.toList.isEmpty = true) (h5 : (x.coord != 0) = true) (w : World) : Calls Try.prog 28 #[mVal x] w fun e w' => e = .returned (.bool true) ∧ Below w.heap.size w w' := by
  have hb : Below w.heap.size w (w.alloc (.cells (mCells x) 30)) := (Below.refl _ _).alloc (Nat.le_refl _) _
  have HX := Lib.hid hb
  clear hb
  have HW := Lib.hid hw
  clear hw
  have hk : ∀ W, Below (w.alloc (.cells (mCells x) 30)).heap.size (w.alloc (.cells (mCells x) 30)) W → Blk W w.heap.size 30 (mCells x) := fun W h => (Blk.new w 30 (mCells x)).below h (by simp)
  have HK := Lib.hid hk
  clear hk
  go_enter Try.func28, Try.ntmps28
  dsimp only [List.append]
  go_wp2_with fail
  refine (HW.out _).mono ?_
  rintro e w1 ⟨rfl, hb1⟩
  have HB := Lib.hid hb1
  have hlt : w.heap.size < w1.heap.size := Nat.lt_of_lt_of_le (by simp) hb1.size
  have q := sp_q (.cells #[.bool false, .bool true, .bool true, .bool true, .bool true, .bool true, .bool true, .bool true, .bool true] 94) (.cells #[.bool false, .string ⟨#[]⟩] 23) (HK.out _ hb1)
  have c3 := q 3 (.int .i64 x.nxt) rfl
  have c4 := q 4 (.string x.key) rfl
  have c5 := q 5 (.bool x.old.has) rfl
  have c6 := q 6 (.string x.old.data) rfl
  have c7 := q 7 (.bool x.new.has) rfl
  have c8 := q 8 (.string x.new.data) rfl
  have c9 := q 9 (.int .i64 x.coord) rfl
  clear q
  clear hb1
  go_wp2_with fail
  go_ret
  exact ⟨rfl, HX.out.trans ((HB.out.mono HX.out.size).trans (((Below.refl _ _).alloc (Nat.le_of_lt hlt) _).alloc (Nat.le_trans (Nat.le_of_lt hlt) (by simp)) _))⟩
set_option maxHeartbeats 8000000 in
theorem spare_e6 (x : MD) (hw : ∀ W, Calls Try.prog 61 #[.int .i64 x.kind] W fun e w' => e = .returned (.agg #[.bool false, .bool true, .bool true, .bool true, .bool true, .bool true, .bool true, .bool true, .bool true]) ∧ Below W.heap.size W w') (h1 : (x.nxt != 0) = false) (h2 : (!x.key.toList.isEmpty) = false) (h3a : x.old.has = false) (h3b : x.old.data.toList.isEmpty = true) (h4a : x.new.has = false) (h4b : x.new.data.toList.isEmpty = true) (h5 : (x.coord != 0) = false) (h6 : ((x.mem.length : Int) != 0) = true) (w : World) : Calls Try.prog 28 #[mVal x] w fun e w' => e = .returned (.bool true) ∧ Below w.heap.size w w' := by
  have hb : Below w.heap.size w (w.alloc (.cells (mCells x) 30)) := (Below.refl _ _).alloc (Nat.le_refl _) _
  have HX := Lib.hid hb
  clear hb
  have HW := Lib.hid hw
  clear hw
  have hk : ∀ W, Below (w.alloc (.cells (mCells x) 30)).heap.size (w.alloc (.cells (mCells x) 30)) W → Blk W w.heap.size 30 (mCells x) := fun W h => (Blk.new w 30 (mCells x)).below h (by simp)
  have HK := Lib.hid hk
  clear hk
  go_enter Try.func28, Try.ntmps28
  dsimp only [List.append]
  go_wp2_with fail
  refine (HW.out _).mono ?_
  rintro e w1 ⟨rfl, hb1⟩
  have HB := Lib.hid hb1
  have hlt : w.heap.size < w1.heap.size := Nat.lt_of_lt_of_le (by simp) hb1.size
  have q := sp_q (.cells #[.bool false, .bool true, .bool true, .bool true, .bool true, .bool true, .bool true, .bool true, .bool true] 94) (.cells #[.bool false, .string ⟨#[]⟩] 23) (HK.out _ hb1)
  have c3 := q 3 (.int .i64 x.nxt) rfl
  have c4 := q 4 (.string x.key) rfl
  have c5 := q 5 (.bool x.old.has) rfl
  have c6 := q 6 (.string x.old.data) rfl
  have c7 := q 7 (.bool x.new.has) rfl
  have c8 := q 8 (.string x.new.data) rfl
  have c9 := q 9 (.int .i64 x.coord) rfl
  have c10 := q 10 (.slice x.mA x.mem.length x.mc) rfl
  clear q
  clear hb1
  go_wp2_with fail
  go_ret
  exact ⟨rfl, HX.out.trans ((HB.out.mono HX.out.size).trans (((Below.refl _ _).alloc (Nat.le_of_lt hlt) _).alloc (Nat.le_trans (Nat.le_of_lt hlt) (by simp)) _))⟩
set_option maxHeartbeats 8000000 in
theorem spare_e7 (x : MD) (hw : ∀ W, Calls Try.prog 61 #[.int .i64 x.kind] W fun e w' => e = .returned (.agg #[.bool false, .bool true, .bool true, .bool true, .bool true, .bool true, .bool true, .bool true, .bool true]) ∧ Below W.heap.size W w') (h1 : (x.nxt != 0) = false) (h2 : (!x.key.toList.isEmpty) = false) (h3a : x.old.has = false) (h3b : x.old.data.toList.isEmpty = true) (h4a : x.new.has = false) (h4b : x.new.data.toList.isEmpty = true) (h5 : (x.coord != 0) = false) (h6 : ((x.mem.length : Int) != 0) = false) (h7 : ((x.locks.length : Int) != 0) = true) (w : World) : Calls Try.prog 28 #[mVal x] w fun e w' => e = .returned (.bool true) ∧ Below w.heap.size w w' := by
  have hb : Below w.heap.size w (w.alloc (.cells (mCells x) 30)) := (Below.refl _ _).alloc (Nat.le_refl _) _
  have HX := Lib.hid hb
  clear hb
  have HW := Lib.hid hw
  clear hw
  have hk : ∀ W, Below (w.alloc (.cells (mCells x) 30)).heap.size (w.alloc (.cells (mCells x) 30)) W → Blk W w.heap.size 30 (mCells x) := fun W h => (Blk.new w 30 (mCells x)).below h (by simp)
  have HK := Lib.hid hk
  clear hk
  go_enter Try.func28, Try.ntmps28
  dsimp only [List.append]
  go_wp2_with fail
  refine (HW.out _).mono ?_
  rintro e w1 ⟨rfl, hb1⟩
  have HB := Lib.hid hb1
  have hlt : w.heap.size < w1.heap.size := Nat.lt_of_lt_of_le (by simp) hb1.size
  have q := sp_q (.cells #[.bool false, .bool true, .bool true, .bool true, .bool true, .bool true, .bool true, .bool true, .bool true] 94) (.cells #[.bool false, .string ⟨#[]⟩] 23) (HK.out _ hb1)
  have c3 := q 3 (.int .i64 x.nxt) rfl
  have c4 := q 4 (.string x.key) rfl
  have c5 := q 5 (.bool x.old.has) rfl
  have c6 := q 6 (.string x.old.data) rfl
  have c7 := q 7 (.bool x.new.has) rfl
  have c8 := q 8 (.string x.new.data) rfl
  have c9 := q 9 (.int .i64 x.coord) rfl
  have c10 := q 10 (.slice x.mA x.mem.length x.mc) rfl
  have c11 := q 11 (.slice x.lA x.locks.length x.lc) rfl
  clear q
  clear hb1
  go_wp2_with fail
  go_ret
  exact ⟨rfl, HX.out.trans ((HB.out.mono HX.out.size).trans (((Below.refl _ _).alloc (Nat.le_of_lt hlt) _).alloc (Nat.le_trans (Nat.le_of_lt hlt) (by simp)) _))⟩
set_option maxHeartbeats 8000000 in
theorem spare_e8 (x : MD) (hw : ∀ W, Calls Try.prog 61 #[.int .i64 x.kind] W fun e w' => e = .returned (.agg #[.bool false, .bool true, .bool true, .bool true, .bool true, .bool true, .bool true, .bool true, .bool true]) ∧ Below W.heap.size W w') (h1 : (x.nxt != 0) = false) (h2 : (!x.key.toList.isEmpty) = false) (h3a : x.old.has = false) (h3b : x.old.data.toList.isEmpty = true) (h4a : x.new.has = false) (h4b : x.new.data.toList.isEmpty = true) (h5 : (x.coord != 0) = false) (h6 : ((x.mem.length : Int) != 0) = false) (h7 : ((x.locks.length : Int) != 0) = false) (h8 : (wrap64 (wrap64 (wrap64 ((x.rows.length : Int) + (x.dirty.length : Int)) + (x.deeds.length : Int)) + (x.past.length : Int)) != 0) = true) (w : World) : Calls Try.prog 28 #[mVal x] w fun e w' => e = .returned (.bool true) ∧ Below w.heap.size w w' := by
  have hb : Below w.heap.size w (w.alloc (.cells (mCells x) 30)) := (Below.refl _ _).alloc (Nat.le_refl _) _
  have HX := Lib.hid hb
  clear hb
  have HW := Lib.hid hw
  clear hw
  have hk : ∀ W, Below (w.alloc (.cells (mCells x) 30)).heap.size (w.alloc (.cells (mCells x) 30)) W → Blk W w.heap.size 30 (mCells x) := fun W h => (Blk.new w 30 (mCells x)).below h (by simp)
  have HK := Lib.hid hk
  clear hk
  go_enter Try.func28, Try.ntmps28
  dsimp only [List.append]
  go_wp2_with fail
  refine (HW.out _).mono ?_
  rintro e w1 ⟨rfl, hb1⟩
  have HB := Lib.hid hb1
  have hlt : w.heap.size < w1.heap.size := Nat.lt_of_lt_of_le (by simp) hb1.size
  have q := sp_q (.cells #[.bool false, .bool true, .bool true, .bool true, .bool true, .bool true, .bool true, .bool true, .bool true] 94) (.cells #[.bool false, .string ⟨#[]⟩] 23) (HK.out _ hb1)
  have c3 := q 3 (.int .i64 x.nxt) rfl
  have c4 := q 4 (.string x.key) rfl
  have c5 := q 5 (.bool x.old.has) rfl
  have c6 := q 6 (.string x.old.data) rfl
  have c7 := q 7 (.bool x.new.has) rfl
  have c8 := q 8 (.string x.new.data) rfl
  have c9 := q 9 (.int .i64 x.coord) rfl
  have c10 := q 10 (.slice x.mA x.mem.length x.mc) rfl
  have c11 := q 11 (.slice x.lA x.locks.length x.lc) rfl
  have c12 := q 12 (.slice x.rA x.rows.length x.rc) rfl
  have c13 := q 13 (.slice x.dA x.dirty.length x.dc) rfl
  have c14 := q 14 (.slice x.eA x.deeds.length x.ec) rfl
  have c15 := q 15 (.slice x.pA x.past.length x.pc) rfl
  clear q
  clear hb1
  go_wp2_with fail
  go_ret
  exact ⟨rfl, HX.out.trans ((HB.out.mono HX.out.size).trans (((Below.refl _ _).alloc (Nat.le_of_lt hlt) _).alloc (Nat.le_trans (Nat.le_of_lt hlt) (by simp)) _))⟩
set_option maxHeartbeats 8000000 in
theorem spare_ez (x : MD) (hw : ∀ W, Calls Try.prog 61 #[.int .i64 x.kind] W fun e w' => e = .returned (.agg #[.bool false, .bool true, .bool true, .bool true, .bool true, .bool true, .bool true, .bool true, .bool true]) ∧ Below W.heap.size W w') (h1 : (x.nxt != 0) = false) (h2 : (!x.key.toList.isEmpty) = false) (h3a : x.old.has = false) (h3b : x.old.data.toList.isEmpty = true) (h4a : x.new.has = false) (h4b : x.new.data.toList.isEmpty = true) (h5 : (x.coord != 0) = false) (h6 : ((x.mem.length : Int) != 0) = false) (h7 : ((x.locks.length : Int) != 0) = false) (h8 : (wrap64 (wrap64 (wrap64 ((x.rows.length : Int) + (x.dirty.length : Int)) + (x.deeds.length : Int)) + (x.past.length : Int)) != 0) = false) (w : World) : Calls Try.prog 28 #[mVal x] w fun e w' => e = .returned (.bool false) ∧ Below w.heap.size w w' := by
  have hb : Below w.heap.size w (w.alloc (.cells (mCells x) 30)) := (Below.refl _ _).alloc (Nat.le_refl _) _
  have HX := Lib.hid hb
  clear hb
  have HW := Lib.hid hw
  clear hw
  have hk : ∀ W, Below (w.alloc (.cells (mCells x) 30)).heap.size (w.alloc (.cells (mCells x) 30)) W → Blk W w.heap.size 30 (mCells x) := fun W h => (Blk.new w 30 (mCells x)).below h (by simp)
  have HK := Lib.hid hk
  clear hk
  go_enter Try.func28, Try.ntmps28
  dsimp only [List.append]
  go_wp2_with fail
  refine (HW.out _).mono ?_
  rintro e w1 ⟨rfl, hb1⟩
  have HB := Lib.hid hb1
  have hlt : w.heap.size < w1.heap.size := Nat.lt_of_lt_of_le (by simp) hb1.size
  have q := sp_q (.cells #[.bool false, .bool true, .bool true, .bool true, .bool true, .bool true, .bool true, .bool true, .bool true] 94) (.cells #[.bool false, .string ⟨#[]⟩] 23) (HK.out _ hb1)
  have c3 := q 3 (.int .i64 x.nxt) rfl
  have c4 := q 4 (.string x.key) rfl
  have c5 := q 5 (.bool x.old.has) rfl
  have c6 := q 6 (.string x.old.data) rfl
  have c7 := q 7 (.bool x.new.has) rfl
  have c8 := q 8 (.string x.new.data) rfl
  have c9 := q 9 (.int .i64 x.coord) rfl
  have c10 := q 10 (.slice x.mA x.mem.length x.mc) rfl
  have c11 := q 11 (.slice x.lA x.locks.length x.lc) rfl
  have c12 := q 12 (.slice x.rA x.rows.length x.rc) rfl
  have c13 := q 13 (.slice x.dA x.dirty.length x.dc) rfl
  have c14 := q 14 (.slice x.eA x.deeds.length x.ec) rfl
  have c15 := q 15 (.slice x.pA x.past.length x.pc) rfl
  clear q
  clear hb1
  go_wp2_with fail
  go_ret
  exact ⟨rfl, HX.out.trans ((HB.out.mono HX.out.size).trans (((Below.refl _ _).alloc (Nat.le_of_lt hlt) _).alloc (Nat.le_trans (Nat.le_of_lt hlt) (by simp)) _))⟩
set_option maxHeartbeats 8000000 in
theorem spare_n0 (x : MD) (hw : ∀ W, Calls Try.prog 61 #[.int .i64 x.kind] W fun e w' => e = .returned (.agg #[.bool true, .bool true, .bool true, .bool true, .bool true, .bool true, .bool true, .bool true, .bool true]) ∧ Below W.heap.size W w') (h0 : (x.prev != 0) = true) (w : World) : Calls Try.prog 28 #[mVal x] w fun e w' => e = .returned (.bool true) ∧ Below w.heap.size w w' := by
  have hb : Below w.heap.size w (w.alloc (.cells (mCells x) 30)) := (Below.refl _ _).alloc (Nat.le_refl _) _
  have HX := Lib.hid hb
  clear hb
  have HW := Lib.hid hw
  clear hw
  have hk : ∀ W, Below (w.alloc (.cells (mCells x) 30)).heap.size (w.alloc (.cells (mCells x) 30)) W → Blk W w.heap.size 30 (mCells x) := fun W h => (Blk.new w 30 (mCells x)).below h (by simp)
  have HK := Lib.hid hk
  clear hk
  go_enter Try.func28, Try.ntmps28
  dsimp only [List.append]
  go_wp2_with fail
  refine (HW.out _).mono ?_
  rintro e w1 ⟨rfl, hb1⟩
  have HB := Lib.hid hb1
  have hlt : w.heap.size < w1.heap.size := Nat.lt_of_lt_of_le (by simp) hb1.size
  have q := sp_q (.cells #[.bool true, .bool true, .bool true, .bool true, .bool true, .bool true, .bool true, .bool true, .bool true] 94) (.cells #[.bool false, .string ⟨#[]⟩] 23) (HK.out _ hb1)
  have c2 := q 2 (.int .i64 x.prev) rfl
  clear q
  clear hb1
  go_wp2_with fail
  go_ret
  exact ⟨rfl, HX.out.trans ((HB.out.mono HX.out.size).trans (((Below.refl _ _).alloc (Nat.le_of_lt hlt) _).alloc (Nat.le_trans (Nat.le_of_lt hlt) (by simp)) _))⟩
set_option maxHeartbeats 8000000 in
theorem spare_n1 (x : MD) (hw : ∀ W, Calls Try.prog 61 #[.int .i64 x.kind] W fun e w' => e = .returned (.agg #[.bool true, .bool true, .bool true, .bool true, .bool true, .bool true, .bool true, .bool true, .bool true]) ∧ Below W.heap.size W w') (h0 : (x.prev != 0) = false) (h1 : (x.nxt != 0) = true) (w : World) : Calls Try.prog 28 #[mVal x] w fun e w' => e = .returned (.bool true) ∧ Below w.heap.size w w' := by
  have hb : Below w.heap.size w (w.alloc (.cells (mCells x) 30)) := (Below.refl _ _).alloc (Nat.le_refl _) _
  have HX := Lib.hid hb
  clear hb
  have HW := Lib.hid hw
  clear hw
  have hk : ∀ W, Below (w.alloc (.cells (mCells x) 30)).heap.size (w.alloc (.cells (mCells x) 30)) W → Blk W w.heap.size 30 (mCells x) := fun W h => (Blk.new w 30 (mCells x)).below h (by simp)
  have HK := Lib.hid hk
  clear hk
  go_enter Try.func28, Try.ntmps28
  dsimp only [List.append]
  go_wp2_with fail
  refine (HW.out _).mono ?_
  rintro e w1 ⟨rfl, hb1⟩
  have HB := Lib.hid hb1
  have hlt : w.heap.size < w1.heap.size := Nat.lt_of_lt_of_le (by simp) hb1.size
  have q := sp_q (.cells #[.bool true, .bool true, .bool true, .bool true, .bool true, .bool true, .bool true, .bool true, .bool true] 94) (.cells #[.bool false, .string ⟨#[]⟩] 23) (HK.out _ hb1)
  have c2 := q 2 (.int .i64 x.prev) rfl
  have c3 := q 3 (.int .i64 x.nxt) rfl
  clear q
  clear hb1
  go_wp2_with fail
  go_ret
  exact ⟨rfl, HX.out.trans ((HB.out.mono HX.out.size).trans (((Below.refl _ _).alloc (Nat.le_of_lt hlt) _).alloc (Nat.le_trans (Nat.le_of_lt hlt) (by simp)) _))⟩
set_option maxHeartbeats 8000000 in
theorem spare_n2 (x : MD) (hw : ∀ W, Calls Try.prog 61 #[.int .i64 x.kind] W fun e w' => e = .returned (.agg #[.bool true, .bool true, .bool true, .bool true, .bool true, .bool true, .bool true, .bool true, .bool true]) ∧ Below W.heap.size W w') (h0 : (x.prev != 0) = false) (h1 : (x.nxt != 0) = false) (h2 : (!x.key.toList.isEmpty) = true) (w : World) : Calls Try.prog 28 #[mVal x] w fun e w' => e = .returned (.bool true) ∧ Below w.heap.size w w' := by
  have hb : Below w.heap.size w (w.alloc (.cells (mCells x) 30)) := (Below.refl _ _).alloc (Nat.le_refl _) _
  have HX := Lib.hid hb
  clear hb
  have HW := Lib.hid hw
  clear hw
  have hk : ∀ W, Below (w.alloc (.cells (mCells x) 30)).heap.size (w.alloc (.cells (mCells x) 30)) W → Blk W w.heap.size 30 (mCells x) := fun W h => (Blk.new w 30 (mCells x)).below h (by simp)
  have HK := Lib.hid hk
  clear hk
  go_enter Try.func28, Try.ntmps28
  dsimp only [List.append]
  go_wp2_with fail
  refine (HW.out _).mono ?_
  rintro e w1 ⟨rfl, hb1⟩
  have HB := Lib.hid hb1
  have hlt : w.heap.size < w1.heap.size := Nat.lt_of_lt_of_le (by simp) hb1.size
  have q := sp_q (.cells #[.bool true, .bool true, .bool true, .bool true, .bool true, .bool true, .bool true, .bool true, .bool true] 94) (.cells #[.bool false, .string ⟨#[]⟩] 23) (HK.out _ hb1)
  have c2 := q 2 (.int .i64 x.prev) rfl
  have c3 := q 3 (.int .i64 x.nxt) rfl
  have c4 := q 4 (.string x.key) rfl
  clear q
  clear hb1
  go_wp2_with fail
  go_ret
  exact ⟨rfl, HX.out.trans ((HB.out.mono HX.out.size).trans (((Below.refl _ _).alloc (Nat.le_of_lt hlt) _).alloc (Nat.le_trans (Nat.le_of_lt hlt) (by simp)) _))⟩
set_option maxHeartbeats 8000000 in
theorem spare_n3 (x : MD) (hw : ∀ W, Calls Try.prog 61 #[.int .i64 x.kind] W fun e w' => e = .returned (.agg #[.bool true, .bool true, .bool true, .bool true, .bool true, .bool true, .bool true, .bool true, .bool true]) ∧ Below W.heap.size W w') (h0 : (x.prev != 0) = false) (h1 : (x.nxt != 0) = false) (h2 : (!x.key.toList.isEmpty) = false) (h3a : x.old.has = true) (w : World) : Calls Try.prog 28 #[mVal x] w fun e w' => e = .returned (.bool true) ∧ Below w.heap.size w w' := by
  have hb : Below w.heap.size w (w.alloc (.cells (mCells x) 30)) := (Below.refl _ _).alloc (Nat.le_refl _) _
  have HX := Lib.hid hb
  clear hb
  have HW := Lib.hid hw
  clear hw
  have hk : ∀ W, Below (w.alloc (.cells (mCells x) 30)).heap.size (w.alloc (.cells (mCells x) 30)) W → Blk W w.heap.size 30 (mCells x) := fun W h => (Blk.new w 30 (mCells x)).below h (by simp)
  have HK := Lib.hid hk
  clear hk
  go_enter Try.func28, Try.ntmps28
  dsimp only [List.append]
  go_wp2_with fail
  refine (HW.out _).mono ?_
  rintro e w1 ⟨rfl, hb1⟩
  have HB := Lib.hid hb1
  have hlt : w.heap.size < w1.heap.size := Nat.lt_of_lt_of_le (by simp) hb1.size
  have q := sp_q (.cells #[.bool true, .bool true, .bool true, .bool true, .bool true, .bool true, .bool true, .bool true, .bool true] 94) (.cells #[.bool false, .string ⟨#[]⟩] 23) (HK.out _ hb1)
  have c2 := q 2 (.int .i64 x.prev) rfl
  have c3 := q 3 (.int .i64 x.nxt) rfl
  have c4 := q 4 (.string x.key) rfl
  have c5 := q 5 (.bool x.old.has) rfl
  have c6 := q 6 (.string x.old.data) rfl
  clear q
  clear hb1
  go_wp2_with fail
  go_ret
  exact ⟨rfl, HX.out.trans ((HB.out.mono HX.out.size).trans (((Below.refl _ _).alloc (Nat.le_of_lt hlt) _).alloc (Nat.le_trans (Nat.le_of_lt hlt) (by simp)) _))⟩
set_option maxHeartbeats 8000000 in
theorem spare_n3b (x : MD) (hw : ∀ W, Calls Try.prog 61 #[.int .i64 x.kind] W fun e w' => e = .returned (.agg #[.bool true, .bool true, .bool true, .bool true, .bool true, .bool true, .bool true, .bool true, .bool true]) ∧ Below W.heap.size W w') (h0 : (x.prev != 0) = false) (h1 : (x.nxt != 0) = false) (h2 : (!x.key.toList.isEmpty) = false) (h3a : x.old.has = false) (h3b : x.old.data.toList.isEmpty = false) (w : World) : Calls Try.prog 28 #[mVal x] w fun e w' => e = .returned (.bool true) ∧ Below w.heap.size w w' := by
  have hb : Below w.heap.size w (w.alloc (.cells (mCells x) 30)) := (Below.refl _ _).alloc (Nat.le_refl _) _
  have HX := Lib.hid hb
  clear hb
  have HW := Lib.hid hw
  clear hw
  have hk : ∀ W, Below (w.alloc (.cells (mCells x) 30)).heap.size (w.alloc (.cells (mCells x) 30)) W → Blk W w.heap.size 30 (mCells x) := fun W h => (Blk.new w 30 (mCells x)).below h (by simp)
  have HK := Lib.hid hk
  clear hk
  go_enter Try.func28, Try.ntmps28
  dsimp only [List.append]
  go_wp2_with fail
  refine (HW.out _).mono ?_
  rintro e w1 ⟨rfl, hb1⟩
  have HB := Lib.hid hb1
  have hlt : w.heap.size < w1.heap.size := Nat.lt_of_lt_of_le (by simp) hb1.size
  have q := sp_q (.cells #[.bool true, .bool true, .bool true, .bool true, .bool true, .bool true, .bool true, .bool true, .bool true] 94) (.cells #[.bool false, .string ⟨#[]⟩] 23) (HK.out _ hb1)
  have c2 := q 2 (.int .i64 x.prev) rfl
  have c3 := q 3 (.int .i64 x.nxt) rfl
  have c4 := q 4 (.string x.key) rfl
  have c5 := q 5 (.bool x.old.has) rfl
  have c6 := q 6 (.string x.old.data) rfl
  clear q
  clear hb1
  go_wp2_with fail
  go_ret
  exact ⟨rfl, HX.out.trans ((HB.out.mono HX.out.size).trans (((Below.refl _ _).alloc (Nat.le_of_lt hlt) _).alloc (Nat.le_trans (Nat.le_of_lt hlt) (by simp)) _))⟩
set_option maxHeartbeats 8000000 in
theorem spare_n4 (x : MD) (hw : ∀ W, Calls Try.prog 61 #[.int .i64 x.kind] W fun e w' => e = .returned (.agg #[.bool true, .bool true, .bool true, .bool true, .bool true, .bool true, .bool true, .bool true, .bool true]) ∧ Below W.heap.size W w') (h0 : (x.prev != 0) = false) (h1 : (x.nxt != 0) = false) (h2 : (!x.key.toList.isEmpty) = false) (h3a : x.old.has = false) (h3b : x.old.data.toList.isEmpty = true) (h4a : x.new.has = true) (w : World) : Calls Try.prog 28 #[mVal x] w fun e w' => e = .returned (.bool true) ∧ Below w.heap.size w w' := by
  have hb : Below w.heap.size w (w.alloc (.cells (mCells x) 30)) := (Below.refl _ _).alloc (Nat.le_refl _) _
  have HX := Lib.hid hb
  clear hb
  have HW := Lib.hid hw
  clear hw
  have hk : ∀ W, Below (w.alloc (.cells (mCells x) 30)).heap.size (w.alloc (.cells (mCells x) 30)) W → Blk W w.heap.size 30 (mCells x) := fun W h => (Blk.new w 30 (mCells x)).below h (by simp)
  have HK := Lib.hid hk
  clear hk
  go_enter Try.func28, Try.ntmps28
  dsimp only [List.append]
  go_wp2_with fail
  refine (HW.out _).mono ?_
  rintro e w1 ⟨rfl, hb1⟩
  have HB := Lib.hid hb1
  have hlt : w.heap.size < w1.heap.size := Nat.lt_of_lt_of_le (by simp) hb1.size
  have q := sp_q (.cells #[.bool true, .bool true, .bool true, .bool true, .bool true, .bool true, .bool true, .bool true, .bool true] 94) (.cells #[.bool false, .string ⟨#[]⟩] 23) (HK.out _ hb1)
  have c2 := q 2 (.int .i64 x.prev) rfl
  have c3 := q 3 (.int .i64 x.nxt) rfl
  have c4 := q 4 (.string x.key) rfl
  have c5 := q 5 (.bool x.old.has) rfl
  have c6 := q 6 (.string x.old.data) rfl
  have c7 := q 7 (.bool x.new.has) rfl
  have c8 := q 8 (.string x.new.data) rfl
  clear q
  clear hb1
  go_wp2_with fail
  go_ret
  exact ⟨rfl, HX.out.trans ((HB.out.mono HX.out.size).trans (((Below.refl _ _).alloc (Nat.le_of_lt hlt) _).alloc (Nat.le_trans (Nat.le_of_lt hlt) (by simp)) _))⟩
set_option maxHeartbeats 8000000 in
theorem spare_n4b (x : MD) (hw : ∀ W, Calls Try.prog 61 #[.int .i64 x.kind] W fun e w' => e = .returned (.agg #[.bool true, .bool true, .bool true, .bool true, .bool true, .bool true, .bool true, .bool true, .bool true]) ∧ Below W.heap.size W w') (h0 : (x.prev != 0) = false) (h1 : (x.nxt != 0) = false) (h2 : (!x.key.toList.isEmpty) = false) (h3a : x.old.has = false) (h3b : x.old.data.toList.isEmpty = true) (h4a : x.new.has = false) (h4b : x.new.data.toList.isEmpty = false) (w : World) : Calls Try.prog 28 #[mVal x] w fun e w' => e = .returned (.bool true) ∧ Below w.heap.size w w' := by
  have hb : Below w.heap.size w (w.alloc (.cells (mCells x) 30)) := (Below.refl _ _).alloc (Nat.le_refl _) _
  have HX := Lib.hid hb
  clear hb
  have HW := Lib.hid hw
  clear hw
  have hk : ∀ W, Below (w.alloc (.cells (mCells x) 30)).heap.size (w.alloc (.cells (mCells x) 30)) W → Blk W w.heap.size 30 (mCells x) := fun W h => (Blk.new w 30 (mCells x)).below h (by simp)
  have HK := Lib.hid hk
  clear hk
  go_enter Try.func28, Try.ntmps28
  dsimp only [List.append]
  go_wp2_with fail
  refine (HW.out _).mono ?_
  rintro e w1 ⟨rfl, hb1⟩
  have HB := Lib.hid hb1
  have hlt : w.heap.size < w1.heap.size := Nat.lt_of_lt_of_le (by simp) hb1.size
  have q := sp_q (.cells #[.bool true, .bool true, .bool true, .bool true, .bool true, .bool true, .bool true, .bool true, .bool true] 94) (.cells #[.bool false, .string ⟨#[]⟩] 23) (HK.out _ hb1)
  have c2 := q 2 (.int .i64 x.prev) rfl
  have c3 := q 3 (.int .i64 x.nxt) rfl
  have c4 := q 4 (.string x.key) rfl
  have c5 := q 5 (.bool x.old.has) rfl
  have c6 := q 6 (.string x.old.data) rfl
  have c7 := q 7 (.bool x.new.has) rfl
  have c8 := q 8 (.string x.new.data) rfl
  clear q
  clear hb1
  go_wp2_with fail
  go_ret
  exact ⟨rfl, HX.out.trans ((HB.out.mono HX.out.size).trans (((Below.refl _ _).alloc (Nat.le_of_lt hlt) _).alloc (Nat.le_trans (Nat.le_of_lt hlt) (by simp)) _))⟩
set_option maxHeartbeats 8000000 in
theorem spare_n5 (x : MD) (hw : ∀ W, Calls Try.prog 61 #[.int .i64 x.kind] W fun e w' => e = .returned (.agg #[.bool true, .bool true, .bool true, .bool true, .bool true, .bool true, .bool true, .bool true, .bool true]) ∧ Below W.heap.size W w') (h0 : (x.prev != 0) = false) (h1 : (x.nxt != 0) = false) (h2 : (!x.key.toList.isEmpty) = false) (h3a : x.old.has = false) (h3b : x.old.data.toList.isEmpty = true) (h4a : x.new.has = false) (h4b : x.new.data.toList.isEmpty = true) (h5 : (x.coord != 0) = true) (w : World) : Calls Try.prog 28 #[mVal x] w fun e w' => e = .returned (.bool true) ∧ Below w.heap.size w w' := by
  have hb : Below w.heap.size w (w.alloc (.cells (mCells x) 30)) := (Below.refl _ _).alloc (Nat.le_refl _) _
  have HX := Lib.hid hb
  clear hb
  have HW := Lib.hid hw
  clear hw
  have hk : ∀ W, Below (w.alloc (.cells (mCells x) 30)).heap.size (w.alloc (.cells (mCells x) 30)) W → Blk W w.heap.size 30 (mCells x) := fun W h => (Blk.new w 30 (mCells x)).below h (by simp)
  have HK := Lib.hid hk
  clear hk
  go_enter Try.func28, Try.ntmps28
  dsimp only [List.append]
  go_wp2_with fail
  refine (HW.out _).mono ?_
  rintro e w1 ⟨rfl, hb1⟩
  have HB := Lib.hid hb1
  have hlt : w.heap.size < w1.heap.size := Nat.lt_of_lt_of_le (by simp) hb1.size
  have q := sp_q (.cells #[.bool true, .bool true, .bool true, .bool true, .bool true, .bool true, .bool true, .bool true, .bool true] 94) (.cells #[.bool false, .string ⟨#[]⟩] 23) (HK.out _ hb1)
  have c2 := q 2 (.int .i64 x.prev) rfl
  have c3 := q 3 (.int .i64 x.nxt) rfl
  have c4 := q 4 (.string x.key) rfl
  have c5 := q 5 (.bool x.old.has) rfl
  have c6 := q 6 (.string x.old.data) rfl
  have c7 := q 7 (.bool x.new.has) rfl
  have c8 := q 8 (.string x.new.data) rfl
  have c9 := q 9 (.int .i64 x.coord) rfl
  clear q
  clear hb1
  go_wp2_with fail
  go_ret
  exact ⟨rfl, HX.out.trans ((HB.out.mono HX.out.size).trans (((Below.refl _ _).alloc (Nat.le_of_lt hlt) _).alloc (Nat.le_trans (Nat.le_of_lt hlt) (by simp)) _))⟩
set_option maxHeartbeats 8000000 in
theorem spare_n6 (x : MD) (hw : ∀ W, Calls Try.prog 61 #[.int .i64 x.kind] W fun e w' => e = .returned (.agg #[.bool true, .bool true, .bool true, .bool true, .bool true, .bool true, .bool true, .bool true, .bool true]) ∧ Below W.heap.size W w') (h0 : (x.prev != 0) = false) (h1 : (x.nxt != 0) = false) (h2 : (!x.key.toList.isEmpty) = false) (h3a : x.old.has = false) (h3b : x.old.data.toList.isEmpty = true) (h4a : x.new.has = false) (h4b : x.new.data.toList.isEmpty = true) (h5 : (x.coord != 0) = false) (h6 : ((x.mem.length : Int) != 0) = true) (w : World) : Calls Try.prog 28 #[mVal x] w fun e w' => e = .returned (.bool true) ∧ Below w.heap.size w w' := by
  have hb : Below w.heap.size w (w.alloc (.cells (mCells x) 30)) := (Below.refl _ _).alloc (Nat.le_refl _) _
  have HX := Lib.hid hb
  clear hb
  have HW := Lib.hid hw
  clear hw
  have hk : ∀ W, Below (w.alloc (.cells (mCells x) 30)).heap.size (w.alloc (.cells (mCells x) 30)) W → Blk W w.heap.size 30 (mCells x) := fun W h => (Blk.new w 30 (mCells x)).below h (by simp)
  have HK := Lib.hid hk
  clear hk
  go_enter Try.func28, Try.ntmps28
  dsimp only [List.append]
  go_wp2_with fail
  refine (HW.out _).mono ?_
  rintro e w1 ⟨rfl, hb1⟩
  have HB := Lib.hid hb1
  have hlt : w.heap.size < w1.heap.size := Nat.lt_of_lt_of_le (by simp) hb1.size
  have q := sp_q (.cells #[.bool true, .bool true, .bool true, .bool true, .bool true, .bool true, .bool true, .bool true, .bool true] 94) (.cells #[.bool false, .string ⟨#[]⟩] 23) (HK.out _ hb1)
  have c2 := q 2 (.int .i64 x.prev) rfl
  have c3 := q 3 (.int .i64 x.nxt) rfl
  have c4 := q 4 (.string x.key) rfl
  have c5 := q 5 (.bool x.old.has) rfl
  have c6 := q 6 (.string x.old.data) rfl
  have c7 := q 7 (.bool x.new.has) rfl
  have c8 := q 8 (.string x.new.data) rfl
  have c9 := q 9 (.int .i64 x.coord) rfl
  have c10 := q 10 (.slice x.mA x.mem.length x.mc) rfl
  clear q
  clear hb1
  go_wp2_with fail
  go_ret
  exact ⟨rfl, HX.out.trans ((HB.out.mono HX.out.size).trans (((Below.refl _ _).alloc (Nat.le_of_lt hlt) _).alloc (Nat.le_trans (Nat.le_of_lt hlt) (by simp)) _))⟩
set_option maxHeartbeats 8000000 in
theorem spare_n7 (x : MD) (hw : ∀ W, Calls Try.prog 61 #[.int .i64 x.kind] W fun e w' => e = .returned (.agg #[.bool true, .bool true, .bool true, .bool true, .bool true, .bool true, .bool true, .bool true, .bool true]) ∧ Below W.heap.size W w') (h0 : (x.prev != 0) = false) (h1 : (x.nxt != 0) = false) (h2 : (!x.key.toList.isEmpty) = false) (h3a : x.old.has = false) (h3b : x.old.data.toList.isEmpty = true) (h4a : x.new.has = false) (h4b : x.new.data.toList.isEmpty = true) (h5 : (x.coord != 0) = false) (h6 : ((x.mem.length : Int) != 0) = false) (h7 : ((x.locks.length : Int) != 0) = true) (w : World) : Calls Try.prog 28 #[mVal x] w fun e w' => e = .returned (.bool true) ∧ Below w.heap.size w w' := by
  have hb : Below w.heap.size w (w.alloc (.cells (mCells x) 30)) := (Below.refl _ _).alloc (Nat.le_refl _) _
  have HX := Lib.hid hb
  clear hb
  have HW := Lib.hid hw
  clear hw
  have hk : ∀ W, Below (w.alloc (.cells (mCells x) 30)).heap.size (w.alloc (.cells (mCells x) 30)) W → Blk W w.heap.size 30 (mCells x) := fun W h => (Blk.new w 30 (mCells x)).below h (by simp)
  have HK := Lib.hid hk
  clear hk
  go_enter Try.func28, Try.ntmps28
  dsimp only [List.append]
  go_wp2_with fail
  refine (HW.out _).mono ?_
  rintro e w1 ⟨rfl, hb1⟩
  have HB := Lib.hid hb1
  have hlt : w.heap.size < w1.heap.size := Nat.lt_of_lt_of_le (by simp) hb1.size
  have q := sp_q (.cells #[.bool true, .bool true, .bool true, .bool true, .bool true, .bool true, .bool true, .bool true, .bool true] 94) (.cells #[.bool false, .string ⟨#[]⟩] 23) (HK.out _ hb1)
  have c2 := q 2 (.int .i64 x.prev) rfl
  have c3 := q 3 (.int .i64 x.nxt) rfl
  have c4 := q 4 (.string x.key) rfl
  have c5 := q 5 (.bool x.old.has) rfl
  have c6 := q 6 (.string x.old.data) rfl
  have c7 := q 7 (.bool x.new.has) rfl
  have c8 := q 8 (.string x.new.data) rfl
  have c9 := q 9 (.int .i64 x.coord) rfl
  have c10 := q 10 (.slice x.mA x.mem.length x.mc) rfl
  have c11 := q 11 (.slice x.lA x.locks.length x.lc) rfl
  clear q
  clear hb1
  go_wp2_with fail
  go_ret
  exact ⟨rfl, HX.out.trans ((HB.out.mono HX.out.size).trans (((Below.refl _ _).alloc (Nat.le_of_lt hlt) _).alloc (Nat.le_trans (Nat.le_of_lt hlt) (by simp)) _))⟩
set_option maxHeartbeats 8000000 in
theorem spare_n8 (x : MD) (hw : ∀ W, Calls Try.prog 61 #[.int .i64 x.kind] W fun e w' => e = .returned (.agg #[.bool true, .bool true, .bool true, .bool true, .bool true, .bool true, .bool true, .bool true, .bool true]) ∧ Below W.heap.size W w') (h0 : (x.prev != 0) = false) (h1 : (x.nxt != 0) = false) (h2 : (!x.key.toList.isEmpty) = false) (h3a : x.old.has = false) (h3b : x.old.data.toList.isEmpty = true) (h4a : x.new.has = false) (h4b : x.new.data.toList.isEmpty = true) (h5 : (x.coord != 0) = false) (h6 : ((x.mem.length : Int) != 0) = false) (h7 : ((x.locks.length : Int) != 0) = false) (h8 : (wrap64 (wrap64 (wrap64 ((x.rows.length : Int) + (x.dirty.length : Int)) + (x.deeds.length : Int)) + (x.past.length : Int)) != 0) = true) (w : World) : Calls Try.prog 28 #[mVal x] w fun e w' => e = .returned (.bool true) ∧ Below w.heap.size w w' := by
  have hb : Below w.heap.size w (w.alloc (.cells (mCells x) 30)) := (Below.refl _ _).alloc (Nat.le_refl _) _
  have HX := Lib.hid hb
  clear hb
  have HW := Lib.hid hw
  clear hw
  have hk : ∀ W, Below (w.alloc (.cells (mCells x) 30)).heap.size (w.alloc (.cells (mCells x) 30)) W → Blk W w.heap.size 30 (mCells x) := fun W h => (Blk.new w 30 (mCells x)).below h (by simp)
  have HK := Lib.hid hk
  clear hk
  go_enter Try.func28, Try.ntmps28
  dsimp only [List.append]
  go_wp2_with fail
  refine (HW.out _).mono ?_
  rintro e w1 ⟨rfl, hb1⟩
  have HB := Lib.hid hb1
  have hlt : w.heap.size < w1.heap.size := Nat.lt_of_lt_of_le (by simp) hb1.size
  have q := sp_q (.cells #[.bool true, .bool true, .bool true, .bool true, .bool true, .bool true, .bool true, .bool true, .bool true] 94) (.cells #[.bool false, .string ⟨#[]⟩] 23) (HK.out _ hb1)
  have c2 := q 2 (.int .i64 x.prev) rfl
  have c3 := q 3 (.int .i64 x.nxt) rfl
  have c4 := q 4 (.string x.key) rfl
  have c5 := q 5 (.bool x.old.has) rfl
  have c6 := q 6 (.string x.old.data) rfl
  have c7 := q 7 (.bool x.new.has) rfl
  have c8 := q 8 (.string x.new.data) rfl
  have c9 := q 9 (.int .i64 x.coord) rfl
  have c10 := q 10 (.slice x.mA x.mem.length x.mc) rfl
  have c11 := q 11 (.slice x.lA x.locks.length x.lc) rfl
  have c12 := q 12 (.slice x.rA x.rows.length x.rc) rfl
  have c13 := q 13 (.slice x.dA x.dirty.length x.dc) rfl
  have c14 := q 14 (.slice x.eA x.deeds.length x.ec) rfl
  have c15 := q 15 (.slice x.pA x.past.length x.pc) rfl
  clear q
  clear hb1
  go_wp2_with fail
  go_ret
  exact ⟨rfl, HX.out.trans ((HB.out.mono HX.out.size).trans (((Below.refl _ _).alloc (Nat.le_of_lt hlt) _).alloc (Nat.le_trans (Nat.le_of_lt hlt) (by simp)) _))⟩
set_option maxHeartbeats 8000000 in
theorem spare_nz (x : MD) (hw : ∀ W, Calls Try.prog 61 #[.int .i64 x.kind] W fun e w' => e = .returned (.agg #[.bool true, .bool true, .bool true, .bool true, .bool true, .bool true, .bool true, .bool true, .bool true]) ∧ Below W.heap.size W w') (h0 : (x.prev != 0) = false) (h1 : (x.nxt != 0) = false) (h2 : (!x.key.toList.isEmpty) = false) (h3a : x.old.has = false) (h3b : x.old.data.toList.isEmpty = true) (h4a : x.new.has = false) (h4b : x.new.data.toList.isEmpty = true) (h5 : (x.coord != 0) = false) (h6 : ((x.mem.length : Int) != 0) = false) (h7 : ((x.locks.length : Int) != 0) = false) (h8 : (wrap64 (wrap64 (wrap64 ((x.rows.length : Int) + (x.dirty.length : Int)) + (x.deeds.length : Int)) + (x.past.length : Int)) != 0) = false) (w : World) : Calls Try.prog 28 #[mVal x] w fun e w' => e = .returned (.bool false) ∧ Below w.heap.size w w' := by
  have hb : Below w.heap.size w (w.alloc (.cells (mCells x) 30)) := (Below.refl _ _).alloc (Nat.le_refl _) _
  have HX := Lib.hid hb
  clear hb
  have HW := Lib.hid hw
  clear hw
  have hk : ∀ W, Below (w.alloc (.cells (mCells x) 30)).heap.size (w.alloc (.cells (mCells x) 30)) W → Blk W w.heap.size 30 (mCells x) := fun W h => (Blk.new w 30 (mCells x)).below h (by simp)
  have HK := Lib.hid hk
  clear hk
  go_enter Try.func28, Try.ntmps28
  dsimp only [List.append]
  go_wp2_with fail
  refine (HW.out _).mono ?_
  rintro e w1 ⟨rfl, hb1⟩
  have HB := Lib.hid hb1
  have hlt : w.heap.size < w1.heap.size := Nat.lt_of_lt_of_le (by simp) hb1.size
  have q := sp_q (.cells #[.bool true, .bool true, .bool true, .bool true, .bool true, .bool true, .bool true, .bool true, .bool true] 94) (.cells #[.bool false, .string ⟨#[]⟩] 23) (HK.out _ hb1)
  have c2 := q 2 (.int .i64 x.prev) rfl
  have c3 := q 3 (.int .i64 x.nxt) rfl
  have c4 := q 4 (.string x.key) rfl
  have c5 := q 5 (.bool x.old.has) rfl
  have c6 := q 6 (.string x.old.data) rfl
  have c7 := q 7 (.bool x.new.has) rfl
  have c8 := q 8 (.string x.new.data) rfl
  have c9 := q 9 (.int .i64 x.coord) rfl
  have c10 := q 10 (.slice x.mA x.mem.length x.mc) rfl
  have c11 := q 11 (.slice x.lA x.locks.length x.lc) rfl
  have c12 := q 12 (.slice x.rA x.rows.length x.rc) rfl
  have c13 := q 13 (.slice x.dA x.dirty.length x.dc) rfl
  have c14 := q 14 (.slice x.eA x.deeds.length x.ec) rfl
  have c15 := q 15 (.slice x.pA x.past.length x.pc) rfl
  clear q
  clear hb1
  go_wp2_with fail
  go_ret
  exact ⟨rfl, HX.out.trans ((HB.out.mono HX.out.size).trans (((Below.refl _ _).alloc (Nat.le_of_lt hlt) _).alloc (Nat.le_trans (Nat.le_of_lt hlt) (by simp)) _))⟩
end Go.Proofs.Ytlijfnekopjogaa
