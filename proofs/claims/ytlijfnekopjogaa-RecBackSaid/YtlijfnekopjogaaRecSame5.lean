/- The same record, of two whose first difference is a nought (printed by gen_samene.py). -/
import Derived.Test.YtlijfnekopjogaaRecSames
namespace Go.Proofs.Ytlijfnekopjogaa
open Go Go.RowKit Mem Rc
set_option maxRecDepth 100000
set_option linter.unusedVariables false
set_option linter.unusedSimpArgs false

/-- two, boxed -/
structure B2 (w W : World) (x y : MD) : Prop where
  hb : Below w.heap.size w W
  bx : Blk W w.heap.size 30 (mCells x)
  by_ : Blk W (w.heap.size + 1) 30 (mCells y)
theorem B2.mk' (w : World) (x y : MD) : ∃ W, (w.alloc (.cells (mCells x) 30)).alloc (.cells (mCells y) 30) = W ∧ B2 w W x y := by
  refine ⟨_, rfl, ((Below.refl _ _).alloc (Nat.le_refl _) _).alloc (by simp) _, (Blk.new _ _ _).alloc _, ?_⟩
  have := Blk.new (w.alloc (.cells (mCells x) 30)) 30 (mCells y)
  rwa [show (w.alloc (.cells (mCells x) 30)).heap.size = w.heap.size + 1 by simp] at this
set_option maxHeartbeats 8000000 in
theorem sameLists_ne0 (x y : MD) (w : World)  (hd : x.rows.length ≠ y.rows.length) :
    Calls Try.prog 57 #[mVal x, mVal y] w (FalseP w) := by
  obtain ⟨W, hW, h2⟩ := B2.mk' w x y
  obtain ⟨n0, hn0⟩ : ∃ n0, x.rows.length = n0 := ⟨_, rfl⟩
  have c0 : W.cell? ⟨w.heap.size, 12, none⟩ = some (.slice x.rA n0 x.rc) := (h2.bx.cell 12).trans (by rw [← hn0]; rfl)
  obtain ⟨m, hm⟩ : ∃ m, y.rows.length = m := ⟨_, rfl⟩
  have d0 : W.cell? ⟨w.heap.size + 1, 12, none⟩ = some (.slice y.rA m y.rc) := (h2.by_.cell 12).trans (by rw [← hm]; rfl)
  rw [hn0, hm] at hd
  have hb : ((n0 : Int) != (m : Int)) = true := by rw [bne_iff_ne]; omega
  have H := Lib.hid (And.intro h2.hb hd)
  clear h2 hd hm hn0 
  go_enter Try.func57, Try.ntmps57
  go_wp2_with fail
  go_ret
  exact ⟨rfl, H.out.1⟩
set_option maxHeartbeats 8000000 in
theorem sameLists_ne1 (x y : MD) (w : World) (q0 : y.rows.length = x.rows.length) (hd : x.dirty.length ≠ y.dirty.length) :
    Calls Try.prog 57 #[mVal x, mVal y] w (FalseP w) := by
  obtain ⟨W, hW, h2⟩ := B2.mk' w x y
  obtain ⟨n0, hn0⟩ : ∃ n0, x.rows.length = n0 := ⟨_, rfl⟩
  have c0 : W.cell? ⟨w.heap.size, 12, none⟩ = some (.slice x.rA n0 x.rc) := (h2.bx.cell 12).trans (by rw [← hn0]; rfl)
  have d0 : W.cell? ⟨w.heap.size + 1, 12, none⟩ = some (.slice y.rA n0 y.rc) := (h2.by_.cell 12).trans (by rw [← hn0, ← q0]; rfl)
  obtain ⟨n1, hn1⟩ : ∃ n1, x.dirty.length = n1 := ⟨_, rfl⟩
  have c1 : W.cell? ⟨w.heap.size, 13, none⟩ = some (.slice x.dA n1 x.dc) := (h2.bx.cell 13).trans (by rw [← hn1]; rfl)
  obtain ⟨m, hm⟩ : ∃ m, y.dirty.length = m := ⟨_, rfl⟩
  have d1 : W.cell? ⟨w.heap.size + 1, 13, none⟩ = some (.slice y.dA m y.dc) := (h2.by_.cell 13).trans (by rw [← hm]; rfl)
  rw [hn1, hm] at hd
  have hb : ((n1 : Int) != (m : Int)) = true := by rw [bne_iff_ne]; omega
  have H := Lib.hid (And.intro h2.hb hd)
  clear h2 hd hm hn0 hn1 q0
  go_enter Try.func57, Try.ntmps57
  go_wp2_with fail
  go_ret
  exact ⟨rfl, H.out.1⟩
set_option maxHeartbeats 8000000 in
theorem sameLists_ne2 (x y : MD) (w : World) (q0 : y.rows.length = x.rows.length) (q1 : y.dirty.length = x.dirty.length) (hd : x.deeds.length ≠ y.deeds.length) :
    Calls Try.prog 57 #[mVal x, mVal y] w (FalseP w) := by
  obtain ⟨W, hW, h2⟩ := B2.mk' w x y
  obtain ⟨n0, hn0⟩ : ∃ n0, x.rows.length = n0 := ⟨_, rfl⟩
  have c0 : W.cell? ⟨w.heap.size, 12, none⟩ = some (.slice x.rA n0 x.rc) := (h2.bx.cell 12).trans (by rw [← hn0]; rfl)
  have d0 : W.cell? ⟨w.heap.size + 1, 12, none⟩ = some (.slice y.rA n0 y.rc) := (h2.by_.cell 12).trans (by rw [← hn0, ← q0]; rfl)
  obtain ⟨n1, hn1⟩ : ∃ n1, x.dirty.length = n1 := ⟨_, rfl⟩
  have c1 : W.cell? ⟨w.heap.size, 13, none⟩ = some (.slice x.dA n1 x.dc) := (h2.bx.cell 13).trans (by rw [← hn1]; rfl)
  have d1 : W.cell? ⟨w.heap.size + 1, 13, none⟩ = some (.slice y.dA n1 y.dc) := (h2.by_.cell 13).trans (by rw [← hn1, ← q1]; rfl)
  obtain ⟨n2, hn2⟩ : ∃ n2, x.deeds.length = n2 := ⟨_, rfl⟩
  have c2 : W.cell? ⟨w.heap.size, 14, none⟩ = some (.slice x.eA n2 x.ec) := (h2.bx.cell 14).trans (by rw [← hn2]; rfl)
  obtain ⟨m, hm⟩ : ∃ m, y.deeds.length = m := ⟨_, rfl⟩
  have d2 : W.cell? ⟨w.heap.size + 1, 14, none⟩ = some (.slice y.eA m y.ec) := (h2.by_.cell 14).trans (by rw [← hm]; rfl)
  rw [hn2, hm] at hd
  have hb : ((n2 : Int) != (m : Int)) = true := by rw [bne_iff_ne]; omega
  have H := Lib.hid (And.intro h2.hb hd)
  clear h2 hd hm hn0 hn1 hn2 q0 q1
  go_enter Try.func57, Try.ntmps57
  go_wp2_with fail
  go_ret
  exact ⟨rfl, H.out.1⟩
set_option maxHeartbeats 8000000 in
theorem sameLists_ne3 (x y : MD) (w : World) (q0 : y.rows.length = x.rows.length) (q1 : y.dirty.length = x.dirty.length) (q2 : y.deeds.length = x.deeds.length) (hd : x.past.length ≠ y.past.length) :
    Calls Try.prog 57 #[mVal x, mVal y] w (FalseP w) := by
  obtain ⟨W, hW, h2⟩ := B2.mk' w x y
  obtain ⟨n0, hn0⟩ : ∃ n0, x.rows.length = n0 := ⟨_, rfl⟩
  have c0 : W.cell? ⟨w.heap.size, 12, none⟩ = some (.slice x.rA n0 x.rc) := (h2.bx.cell 12).trans (by rw [← hn0]; rfl)
  have d0 : W.cell? ⟨w.heap.size + 1, 12, none⟩ = some (.slice y.rA n0 y.rc) := (h2.by_.cell 12).trans (by rw [← hn0, ← q0]; rfl)
  obtain ⟨n1, hn1⟩ : ∃ n1, x.dirty.length = n1 := ⟨_, rfl⟩
  have c1 : W.cell? ⟨w.heap.size, 13, none⟩ = some (.slice x.dA n1 x.dc) := (h2.bx.cell 13).trans (by rw [← hn1]; rfl)
  have d1 : W.cell? ⟨w.heap.size + 1, 13, none⟩ = some (.slice y.dA n1 y.dc) := (h2.by_.cell 13).trans (by rw [← hn1, ← q1]; rfl)
  obtain ⟨n2, hn2⟩ : ∃ n2, x.deeds.length = n2 := ⟨_, rfl⟩
  have c2 : W.cell? ⟨w.heap.size, 14, none⟩ = some (.slice x.eA n2 x.ec) := (h2.bx.cell 14).trans (by rw [← hn2]; rfl)
  have d2 : W.cell? ⟨w.heap.size + 1, 14, none⟩ = some (.slice y.eA n2 y.ec) := (h2.by_.cell 14).trans (by rw [← hn2, ← q2]; rfl)
  obtain ⟨n3, hn3⟩ : ∃ n3, x.past.length = n3 := ⟨_, rfl⟩
  have c3 : W.cell? ⟨w.heap.size, 15, none⟩ = some (.slice x.pA n3 x.pc) := (h2.bx.cell 15).trans (by rw [← hn3]; rfl)
  obtain ⟨m, hm⟩ : ∃ m, y.past.length = m := ⟨_, rfl⟩
  have d3 : W.cell? ⟨w.heap.size + 1, 15, none⟩ = some (.slice y.pA m y.pc) := (h2.by_.cell 15).trans (by rw [← hm]; rfl)
  rw [hn3, hm] at hd
  have hb : ((n3 : Int) != (m : Int)) = true := by rw [bne_iff_ne]; omega
  have H := Lib.hid (And.intro h2.hb hd)
  clear h2 hd hm hn0 hn1 hn2 hn3 q0 q1 q2
  go_enter Try.func57, Try.ntmps57
  go_wp2_with fail
  refine (sameInts_ne x.pA y.pA n3 m x.pc y.pc _ H.out.2).mono ?_
  rintro e w1 ⟨rfl, hb1⟩
  have H1 := Lib.hid (H.out.1.trans (hb1.mono H.out.1.size))
  clear hb1
  go_wp2_with fail
  go_ret
  exact ⟨rfl, H1.out⟩
set_option maxHeartbeats 8000000 in
theorem same07_ne1 (x y : MD) (w : World) (q0 : y.kind = x.kind) (hz : y.tx = 0) (hd : (x.tx == 0) = false) :
    Calls Try.prog 19 #[mVal x, mVal y] w (FalseP w) := by
  obtain ⟨W, hW, h2⟩ := B2.mk' w x y
  obtain ⟨nm, hnm⟩ : ∃ nm, x.mem.length = nm := ⟨_, rfl⟩
  obtain ⟨nl, hnl⟩ : ∃ nl, x.locks.length = nl := ⟨_, rfl⟩
  have c0 : W.cell? ⟨w.heap.size, 0, none⟩ = some (.int .i64 x.kind) := (h2.bx.cell 0).trans (rfl)
  have d0 : W.cell? ⟨w.heap.size + 1, 0, none⟩ = some (.int .i64 x.kind) := (h2.by_.cell 0).trans (by rw [← q0]; rfl)
  have c1 : W.cell? ⟨w.heap.size, 1, none⟩ = some (.int .i64 x.tx) := (h2.bx.cell 1).trans (rfl)
  have d1 : W.cell? ⟨w.heap.size + 1, 1, none⟩ = some (.int .i64 0) := (h2.by_.cell 1).trans (by show some (.int .i64 y.tx : Value) = _; rw [hz] <;> rfl)
  have H := Lib.hid (h2)
  clear h2 hnm hnl q0 hz
  go_enter Try.func19, Try.ntmps19
  dsimp only [List.append]
  go_wp2_with fail
  go_ret
  exact ⟨rfl, H.out.hb⟩
set_option maxHeartbeats 8000000 in
theorem same07_ne2 (x y : MD) (w : World) (q0 : y.kind = x.kind) (q1 : y.tx = x.tx) (hz : y.prev = 0) (hd : (x.prev == 0) = false) :
    Calls Try.prog 19 #[mVal x, mVal y] w (FalseP w) := by
  obtain ⟨W, hW, h2⟩ := B2.mk' w x y
  obtain ⟨nm, hnm⟩ : ∃ nm, x.mem.length = nm := ⟨_, rfl⟩
  obtain ⟨nl, hnl⟩ : ∃ nl, x.locks.length = nl := ⟨_, rfl⟩
  have c0 : W.cell? ⟨w.heap.size, 0, none⟩ = some (.int .i64 x.kind) := (h2.bx.cell 0).trans (rfl)
  have d0 : W.cell? ⟨w.heap.size + 1, 0, none⟩ = some (.int .i64 x.kind) := (h2.by_.cell 0).trans (by rw [← q0]; rfl)
  have c1 : W.cell? ⟨w.heap.size, 1, none⟩ = some (.int .i64 x.tx) := (h2.bx.cell 1).trans (rfl)
  have d1 : W.cell? ⟨w.heap.size + 1, 1, none⟩ = some (.int .i64 x.tx) := (h2.by_.cell 1).trans (by rw [← q1]; rfl)
  have c2 : W.cell? ⟨w.heap.size, 2, none⟩ = some (.int .i64 x.prev) := (h2.bx.cell 2).trans (rfl)
  have d2 : W.cell? ⟨w.heap.size + 1, 2, none⟩ = some (.int .i64 0) := (h2.by_.cell 2).trans (by show some (.int .i64 y.prev : Value) = _; rw [hz] <;> rfl)
  have H := Lib.hid (h2)
  clear h2 hnm hnl q0 q1 hz
  go_enter Try.func19, Try.ntmps19
  dsimp only [List.append]
  go_wp2_with fail
  go_ret
  exact ⟨rfl, H.out.hb⟩
set_option maxHeartbeats 8000000 in
theorem same07_ne3 (x y : MD) (w : World) (q0 : y.kind = x.kind) (q1 : y.tx = x.tx) (q2 : y.prev = x.prev) (hz : y.nxt = 0) (hd : (x.nxt == 0) = false) :
    Calls Try.prog 19 #[mVal x, mVal y] w (FalseP w) := by
  obtain ⟨W, hW, h2⟩ := B2.mk' w x y
  obtain ⟨nm, hnm⟩ : ∃ nm, x.mem.length = nm := ⟨_, rfl⟩
  obtain ⟨nl, hnl⟩ : ∃ nl, x.locks.length = nl := ⟨_, rfl⟩
  have c0 : W.cell? ⟨w.heap.size, 0, none⟩ = some (.int .i64 x.kind) := (h2.bx.cell 0).trans (rfl)
  have d0 : W.cell? ⟨w.heap.size + 1, 0, none⟩ = some (.int .i64 x.kind) := (h2.by_.cell 0).trans (by rw [← q0]; rfl)
  have c1 : W.cell? ⟨w.heap.size, 1, none⟩ = some (.int .i64 x.tx) := (h2.bx.cell 1).trans (rfl)
  have d1 : W.cell? ⟨w.heap.size + 1, 1, none⟩ = some (.int .i64 x.tx) := (h2.by_.cell 1).trans (by rw [← q1]; rfl)
  have c2 : W.cell? ⟨w.heap.size, 2, none⟩ = some (.int .i64 x.prev) := (h2.bx.cell 2).trans (rfl)
  have d2 : W.cell? ⟨w.heap.size + 1, 2, none⟩ = some (.int .i64 x.prev) := (h2.by_.cell 2).trans (by rw [← q2]; rfl)
  have c3 : W.cell? ⟨w.heap.size, 3, none⟩ = some (.int .i64 x.nxt) := (h2.bx.cell 3).trans (rfl)
  have d3 : W.cell? ⟨w.heap.size + 1, 3, none⟩ = some (.int .i64 0) := (h2.by_.cell 3).trans (by show some (.int .i64 y.nxt : Value) = _; rw [hz] <;> rfl)
  have H := Lib.hid (h2)
  clear h2 hnm hnl q0 q1 q2 hz
  go_enter Try.func19, Try.ntmps19
  dsimp only [List.append]
  go_wp2_with fail
  go_ret
  exact ⟨rfl, H.out.hb⟩
set_option maxHeartbeats 8000000 in
theorem same07_ne4 (x y : MD) (w : World) (q0 : y.kind = x.kind) (q1 : y.tx = x.tx) (q2 : y.prev = x.prev) (q3 : y.nxt = x.nxt) (hz : y.key = ⟨#[]⟩) (hd : x.key.toList.isEmpty = false) :
    Calls Try.prog 19 #[mVal x, mVal y] w (FalseP w) := by
  obtain ⟨W, hW, h2⟩ := B2.mk' w x y
  obtain ⟨nm, hnm⟩ : ∃ nm, x.mem.length = nm := ⟨_, rfl⟩
  obtain ⟨nl, hnl⟩ : ∃ nl, x.locks.length = nl := ⟨_, rfl⟩
  have c0 : W.cell? ⟨w.heap.size, 0, none⟩ = some (.int .i64 x.kind) := (h2.bx.cell 0).trans (rfl)
  have d0 : W.cell? ⟨w.heap.size + 1, 0, none⟩ = some (.int .i64 x.kind) := (h2.by_.cell 0).trans (by rw [← q0]; rfl)
  have c1 : W.cell? ⟨w.heap.size, 1, none⟩ = some (.int .i64 x.tx) := (h2.bx.cell 1).trans (rfl)
  have d1 : W.cell? ⟨w.heap.size + 1, 1, none⟩ = some (.int .i64 x.tx) := (h2.by_.cell 1).trans (by rw [← q1]; rfl)
  have c2 : W.cell? ⟨w.heap.size, 2, none⟩ = some (.int .i64 x.prev) := (h2.bx.cell 2).trans (rfl)
  have d2 : W.cell? ⟨w.heap.size + 1, 2, none⟩ = some (.int .i64 x.prev) := (h2.by_.cell 2).trans (by rw [← q2]; rfl)
  have c3 : W.cell? ⟨w.heap.size, 3, none⟩ = some (.int .i64 x.nxt) := (h2.bx.cell 3).trans (rfl)
  have d3 : W.cell? ⟨w.heap.size + 1, 3, none⟩ = some (.int .i64 x.nxt) := (h2.by_.cell 3).trans (by rw [← q3]; rfl)
  have c4 : W.cell? ⟨w.heap.size, 4, none⟩ = some (.string x.key) := (h2.bx.cell 4).trans (rfl)
  have d4 : W.cell? ⟨w.heap.size + 1, 4, none⟩ = some (.string ⟨#[]⟩) := (h2.by_.cell 4).trans (by show some (.string y.key : Value) = _; rw [hz] <;> rfl)
  have H := Lib.hid (h2)
  clear h2 hnm hnl q0 q1 q2 q3 hz
  go_enter Try.func19, Try.ntmps19
  dsimp only [List.append]
  go_wp2_with fail
  go_ret
  exact ⟨rfl, H.out.hb⟩
set_option maxHeartbeats 8000000 in
theorem same07_ne5 (x y : MD) (w : World) (q0 : y.kind = x.kind) (q1 : y.tx = x.tx) (q2 : y.prev = x.prev) (q3 : y.nxt = x.nxt) (q4 : y.key = x.key) (hz : y.old = V.zero) (hd : x.old.has = true) :
    Calls Try.prog 19 #[mVal x, mVal y] w (FalseP w) := by
  obtain ⟨W, hW, h2⟩ := B2.mk' w x y
  obtain ⟨nm, hnm⟩ : ∃ nm, x.mem.length = nm := ⟨_, rfl⟩
  obtain ⟨nl, hnl⟩ : ∃ nl, x.locks.length = nl := ⟨_, rfl⟩
  have c0 : W.cell? ⟨w.heap.size, 0, none⟩ = some (.int .i64 x.kind) := (h2.bx.cell 0).trans (rfl)
  have d0 : W.cell? ⟨w.heap.size + 1, 0, none⟩ = some (.int .i64 x.kind) := (h2.by_.cell 0).trans (by rw [← q0]; rfl)
  have c1 : W.cell? ⟨w.heap.size, 1, none⟩ = some (.int .i64 x.tx) := (h2.bx.cell 1).trans (rfl)
  have d1 : W.cell? ⟨w.heap.size + 1, 1, none⟩ = some (.int .i64 x.tx) := (h2.by_.cell 1).trans (by rw [← q1]; rfl)
  have c2 : W.cell? ⟨w.heap.size, 2, none⟩ = some (.int .i64 x.prev) := (h2.bx.cell 2).trans (rfl)
  have d2 : W.cell? ⟨w.heap.size + 1, 2, none⟩ = some (.int .i64 x.prev) := (h2.by_.cell 2).trans (by rw [← q2]; rfl)
  have c3 : W.cell? ⟨w.heap.size, 3, none⟩ = some (.int .i64 x.nxt) := (h2.bx.cell 3).trans (rfl)
  have d3 : W.cell? ⟨w.heap.size + 1, 3, none⟩ = some (.int .i64 x.nxt) := (h2.by_.cell 3).trans (by rw [← q3]; rfl)
  have c4 : W.cell? ⟨w.heap.size, 4, none⟩ = some (.string x.key) := (h2.bx.cell 4).trans (rfl)
  have d4 : W.cell? ⟨w.heap.size + 1, 4, none⟩ = some (.string x.key) := (h2.by_.cell 4).trans (by rw [← q4]; rfl)
  have c5 : W.cell? ⟨w.heap.size, 5, none⟩ = some (.bool x.old.has) := (h2.bx.cell 5).trans (rfl)
  have d5 : W.cell? ⟨w.heap.size + 1, 5, none⟩ = some (.bool false) := (h2.by_.cell 5).trans (by show some (.bool y.old.has : Value) = _; rw [hz] <;> rfl)
  have c6 : W.cell? ⟨w.heap.size, 6, none⟩ = some (.string x.old.data) := (h2.bx.cell 6).trans (rfl)
  have d6 : W.cell? ⟨w.heap.size + 1, 6, none⟩ = some (.string ⟨#[]⟩) := (h2.by_.cell 6).trans (by show some (.string y.old.data : Value) = _; rw [hz] <;> rfl)
  have H := Lib.hid (h2)
  clear h2 hnm hnl q0 q1 q2 q3 q4 hz
  go_enter Try.func19, Try.ntmps19
  dsimp only [List.append]
  go_wp2_with fail
  go_ret
  exact ⟨rfl, H.out.hb⟩
set_option maxHeartbeats 8000000 in
theorem same07_ne5b (x y : MD) (w : World) (q0 : y.kind = x.kind) (q1 : y.tx = x.tx) (q2 : y.prev = x.prev) (q3 : y.nxt = x.nxt) (q4 : y.key = x.key) (hz : y.old = V.zero) (hd : x.old.has = false) (hd2 : x.old.data.toList.isEmpty = false) :
    Calls Try.prog 19 #[mVal x, mVal y] w (FalseP w) := by
  obtain ⟨W, hW, h2⟩ := B2.mk' w x y
  obtain ⟨nm, hnm⟩ : ∃ nm, x.mem.length = nm := ⟨_, rfl⟩
  obtain ⟨nl, hnl⟩ : ∃ nl, x.locks.length = nl := ⟨_, rfl⟩
  have c0 : W.cell? ⟨w.heap.size, 0, none⟩ = some (.int .i64 x.kind) := (h2.bx.cell 0).trans (rfl)
  have d0 : W.cell? ⟨w.heap.size + 1, 0, none⟩ = some (.int .i64 x.kind) := (h2.by_.cell 0).trans (by rw [← q0]; rfl)
  have c1 : W.cell? ⟨w.heap.size, 1, none⟩ = some (.int .i64 x.tx) := (h2.bx.cell 1).trans (rfl)
  have d1 : W.cell? ⟨w.heap.size + 1, 1, none⟩ = some (.int .i64 x.tx) := (h2.by_.cell 1).trans (by rw [← q1]; rfl)
  have c2 : W.cell? ⟨w.heap.size, 2, none⟩ = some (.int .i64 x.prev) := (h2.bx.cell 2).trans (rfl)
  have d2 : W.cell? ⟨w.heap.size + 1, 2, none⟩ = some (.int .i64 x.prev) := (h2.by_.cell 2).trans (by rw [← q2]; rfl)
  have c3 : W.cell? ⟨w.heap.size, 3, none⟩ = some (.int .i64 x.nxt) := (h2.bx.cell 3).trans (rfl)
  have d3 : W.cell? ⟨w.heap.size + 1, 3, none⟩ = some (.int .i64 x.nxt) := (h2.by_.cell 3).trans (by rw [← q3]; rfl)
  have c4 : W.cell? ⟨w.heap.size, 4, none⟩ = some (.string x.key) := (h2.bx.cell 4).trans (rfl)
  have d4 : W.cell? ⟨w.heap.size + 1, 4, none⟩ = some (.string x.key) := (h2.by_.cell 4).trans (by rw [← q4]; rfl)
  have c5 : W.cell? ⟨w.heap.size, 5, none⟩ = some (.bool x.old.has) := (h2.bx.cell 5).trans (rfl)
  have d5 : W.cell? ⟨w.heap.size + 1, 5, none⟩ = some (.bool false) := (h2.by_.cell 5).trans (by show some (.bool y.old.has : Value) = _; rw [hz] <;> rfl)
  have c6 : W.cell? ⟨w.heap.size, 6, none⟩ = some (.string x.old.data) := (h2.bx.cell 6).trans (rfl)
  have d6 : W.cell? ⟨w.heap.size + 1, 6, none⟩ = some (.string ⟨#[]⟩) := (h2.by_.cell 6).trans (by show some (.string y.old.data : Value) = _; rw [hz] <;> rfl)
  have H := Lib.hid (h2)
  clear h2 hnm hnl q0 q1 q2 q3 q4 hz
  go_enter Try.func19, Try.ntmps19
  dsimp only [List.append]
  go_wp2_with fail
  go_ret
  exact ⟨rfl, H.out.hb⟩
set_option maxHeartbeats 8000000 in
theorem same07_ne6 (x y : MD) (w : World) (q0 : y.kind = x.kind) (q1 : y.tx = x.tx) (q2 : y.prev = x.prev) (q3 : y.nxt = x.nxt) (q4 : y.key = x.key) (q5 : y.old = x.old) (hz : y.new = V.zero) (hd : x.new.has = true) :
    Calls Try.prog 19 #[mVal x, mVal y] w (FalseP w) := by
  obtain ⟨W, hW, h2⟩ := B2.mk' w x y
  obtain ⟨nm, hnm⟩ : ∃ nm, x.mem.length = nm := ⟨_, rfl⟩
  obtain ⟨nl, hnl⟩ : ∃ nl, x.locks.length = nl := ⟨_, rfl⟩
  have c0 : W.cell? ⟨w.heap.size, 0, none⟩ = some (.int .i64 x.kind) := (h2.bx.cell 0).trans (rfl)
  have d0 : W.cell? ⟨w.heap.size + 1, 0, none⟩ = some (.int .i64 x.kind) := (h2.by_.cell 0).trans (by rw [← q0]; rfl)
  have c1 : W.cell? ⟨w.heap.size, 1, none⟩ = some (.int .i64 x.tx) := (h2.bx.cell 1).trans (rfl)
  have d1 : W.cell? ⟨w.heap.size + 1, 1, none⟩ = some (.int .i64 x.tx) := (h2.by_.cell 1).trans (by rw [← q1]; rfl)
  have c2 : W.cell? ⟨w.heap.size, 2, none⟩ = some (.int .i64 x.prev) := (h2.bx.cell 2).trans (rfl)
  have d2 : W.cell? ⟨w.heap.size + 1, 2, none⟩ = some (.int .i64 x.prev) := (h2.by_.cell 2).trans (by rw [← q2]; rfl)
  have c3 : W.cell? ⟨w.heap.size, 3, none⟩ = some (.int .i64 x.nxt) := (h2.bx.cell 3).trans (rfl)
  have d3 : W.cell? ⟨w.heap.size + 1, 3, none⟩ = some (.int .i64 x.nxt) := (h2.by_.cell 3).trans (by rw [← q3]; rfl)
  have c4 : W.cell? ⟨w.heap.size, 4, none⟩ = some (.string x.key) := (h2.bx.cell 4).trans (rfl)
  have d4 : W.cell? ⟨w.heap.size + 1, 4, none⟩ = some (.string x.key) := (h2.by_.cell 4).trans (by rw [← q4]; rfl)
  have c5 : W.cell? ⟨w.heap.size, 5, none⟩ = some (.bool x.old.has) := (h2.bx.cell 5).trans (rfl)
  have d5 : W.cell? ⟨w.heap.size + 1, 5, none⟩ = some (.bool x.old.has) := (h2.by_.cell 5).trans (by rw [← q5]; rfl)
  have c6 : W.cell? ⟨w.heap.size, 6, none⟩ = some (.string x.old.data) := (h2.bx.cell 6).trans (rfl)
  have d6 : W.cell? ⟨w.heap.size + 1, 6, none⟩ = some (.string x.old.data) := (h2.by_.cell 6).trans (by rw [← q5]; rfl)
  have c7 : W.cell? ⟨w.heap.size, 7, none⟩ = some (.bool x.new.has) := (h2.bx.cell 7).trans (rfl)
  have d7 : W.cell? ⟨w.heap.size + 1, 7, none⟩ = some (.bool false) := (h2.by_.cell 7).trans (by show some (.bool y.new.has : Value) = _; rw [hz] <;> rfl)
  have c8 : W.cell? ⟨w.heap.size, 8, none⟩ = some (.string x.new.data) := (h2.bx.cell 8).trans (rfl)
  have d8 : W.cell? ⟨w.heap.size + 1, 8, none⟩ = some (.string ⟨#[]⟩) := (h2.by_.cell 8).trans (by show some (.string y.new.data : Value) = _; rw [hz] <;> rfl)
  have H := Lib.hid (h2)
  clear h2 hnm hnl q0 q1 q2 q3 q4 q5 hz
  go_enter Try.func19, Try.ntmps19
  dsimp only [List.append]
  go_wp2_with fail
  go_ret
  exact ⟨rfl, H.out.hb⟩
set_option maxHeartbeats 8000000 in
theorem same07_ne6b (x y : MD) (w : World) (q0 : y.kind = x.kind) (q1 : y.tx = x.tx) (q2 : y.prev = x.prev) (q3 : y.nxt = x.nxt) (q4 : y.key = x.key) (q5 : y.old = x.old) (hz : y.new = V.zero) (hd : x.new.has = false) (hd2 : x.new.data.toList.isEmpty = false) :
    Calls Try.prog 19 #[mVal x, mVal y] w (FalseP w) := by
  obtain ⟨W, hW, h2⟩ := B2.mk' w x y
  obtain ⟨nm, hnm⟩ : ∃ nm, x.mem.length = nm := ⟨_, rfl⟩
  obtain ⟨nl, hnl⟩ : ∃ nl, x.locks.length = nl := ⟨_, rfl⟩
  have c0 : W.cell? ⟨w.heap.size, 0, none⟩ = some (.int .i64 x.kind) := (h2.bx.cell 0).trans (rfl)
  have d0 : W.cell? ⟨w.heap.size + 1, 0, none⟩ = some (.int .i64 x.kind) := (h2.by_.cell 0).trans (by rw [← q0]; rfl)
  have c1 : W.cell? ⟨w.heap.size, 1, none⟩ = some (.int .i64 x.tx) := (h2.bx.cell 1).trans (rfl)
  have d1 : W.cell? ⟨w.heap.size + 1, 1, none⟩ = some (.int .i64 x.tx) := (h2.by_.cell 1).trans (by rw [← q1]; rfl)
  have c2 : W.cell? ⟨w.heap.size, 2, none⟩ = some (.int .i64 x.prev) := (h2.bx.cell 2).trans (rfl)
  have d2 : W.cell? ⟨w.heap.size + 1, 2, none⟩ = some (.int .i64 x.prev) := (h2.by_.cell 2).trans (by rw [← q2]; rfl)
  have c3 : W.cell? ⟨w.heap.size, 3, none⟩ = some (.int .i64 x.nxt) := (h2.bx.cell 3).trans (rfl)
  have d3 : W.cell? ⟨w.heap.size + 1, 3, none⟩ = some (.int .i64 x.nxt) := (h2.by_.cell 3).trans (by rw [← q3]; rfl)
  have c4 : W.cell? ⟨w.heap.size, 4, none⟩ = some (.string x.key) := (h2.bx.cell 4).trans (rfl)
  have d4 : W.cell? ⟨w.heap.size + 1, 4, none⟩ = some (.string x.key) := (h2.by_.cell 4).trans (by rw [← q4]; rfl)
  have c5 : W.cell? ⟨w.heap.size, 5, none⟩ = some (.bool x.old.has) := (h2.bx.cell 5).trans (rfl)
  have d5 : W.cell? ⟨w.heap.size + 1, 5, none⟩ = some (.bool x.old.has) := (h2.by_.cell 5).trans (by rw [← q5]; rfl)
  have c6 : W.cell? ⟨w.heap.size, 6, none⟩ = some (.string x.old.data) := (h2.bx.cell 6).trans (rfl)
  have d6 : W.cell? ⟨w.heap.size + 1, 6, none⟩ = some (.string x.old.data) := (h2.by_.cell 6).trans (by rw [← q5]; rfl)
  have c7 : W.cell? ⟨w.heap.size, 7, none⟩ = some (.bool x.new.has) := (h2.bx.cell 7).trans (rfl)
  have d7 : W.cell? ⟨w.heap.size + 1, 7, none⟩ = some (.bool false) := (h2.by_.cell 7).trans (by show some (.bool y.new.has : Value) = _; rw [hz] <;> rfl)
  have c8 : W.cell? ⟨w.heap.size, 8, none⟩ = some (.string x.new.data) := (h2.bx.cell 8).trans (rfl)
  have d8 : W.cell? ⟨w.heap.size + 1, 8, none⟩ = some (.string ⟨#[]⟩) := (h2.by_.cell 8).trans (by show some (.string y.new.data : Value) = _; rw [hz] <;> rfl)
  have H := Lib.hid (h2)
  clear h2 hnm hnl q0 q1 q2 q3 q4 q5 hz
  go_enter Try.func19, Try.ntmps19
  dsimp only [List.append]
  go_wp2_with fail
  go_ret
  exact ⟨rfl, H.out.hb⟩
set_option maxHeartbeats 8000000 in
theorem same07_ne7 (x y : MD) (w : World) (q0 : y.kind = x.kind) (q1 : y.tx = x.tx) (q2 : y.prev = x.prev) (q3 : y.nxt = x.nxt) (q4 : y.key = x.key) (q5 : y.old = x.old) (q6 : y.new = x.new) (hz : y.coord = 0) (hd : (x.coord == 0) = false) :
    Calls Try.prog 19 #[mVal x, mVal y] w (FalseP w) := by
  obtain ⟨W, hW, h2⟩ := B2.mk' w x y
  obtain ⟨nm, hnm⟩ : ∃ nm, x.mem.length = nm := ⟨_, rfl⟩
  obtain ⟨nl, hnl⟩ : ∃ nl, x.locks.length = nl := ⟨_, rfl⟩
  have c0 : W.cell? ⟨w.heap.size, 0, none⟩ = some (.int .i64 x.kind) := (h2.bx.cell 0).trans (rfl)
  have d0 : W.cell? ⟨w.heap.size + 1, 0, none⟩ = some (.int .i64 x.kind) := (h2.by_.cell 0).trans (by rw [← q0]; rfl)
  have c1 : W.cell? ⟨w.heap.size, 1, none⟩ = some (.int .i64 x.tx) := (h2.bx.cell 1).trans (rfl)
  have d1 : W.cell? ⟨w.heap.size + 1, 1, none⟩ = some (.int .i64 x.tx) := (h2.by_.cell 1).trans (by rw [← q1]; rfl)
  have c2 : W.cell? ⟨w.heap.size, 2, none⟩ = some (.int .i64 x.prev) := (h2.bx.cell 2).trans (rfl)
  have d2 : W.cell? ⟨w.heap.size + 1, 2, none⟩ = some (.int .i64 x.prev) := (h2.by_.cell 2).trans (by rw [← q2]; rfl)
  have c3 : W.cell? ⟨w.heap.size, 3, none⟩ = some (.int .i64 x.nxt) := (h2.bx.cell 3).trans (rfl)
  have d3 : W.cell? ⟨w.heap.size + 1, 3, none⟩ = some (.int .i64 x.nxt) := (h2.by_.cell 3).trans (by rw [← q3]; rfl)
  have c4 : W.cell? ⟨w.heap.size, 4, none⟩ = some (.string x.key) := (h2.bx.cell 4).trans (rfl)
  have d4 : W.cell? ⟨w.heap.size + 1, 4, none⟩ = some (.string x.key) := (h2.by_.cell 4).trans (by rw [← q4]; rfl)
  have c5 : W.cell? ⟨w.heap.size, 5, none⟩ = some (.bool x.old.has) := (h2.bx.cell 5).trans (rfl)
  have d5 : W.cell? ⟨w.heap.size + 1, 5, none⟩ = some (.bool x.old.has) := (h2.by_.cell 5).trans (by rw [← q5]; rfl)
  have c6 : W.cell? ⟨w.heap.size, 6, none⟩ = some (.string x.old.data) := (h2.bx.cell 6).trans (rfl)
  have d6 : W.cell? ⟨w.heap.size + 1, 6, none⟩ = some (.string x.old.data) := (h2.by_.cell 6).trans (by rw [← q5]; rfl)
  have c7 : W.cell? ⟨w.heap.size, 7, none⟩ = some (.bool x.new.has) := (h2.bx.cell 7).trans (rfl)
  have d7 : W.cell? ⟨w.heap.size + 1, 7, none⟩ = some (.bool x.new.has) := (h2.by_.cell 7).trans (by rw [← q6]; rfl)
  have c8 : W.cell? ⟨w.heap.size, 8, none⟩ = some (.string x.new.data) := (h2.bx.cell 8).trans (rfl)
  have d8 : W.cell? ⟨w.heap.size + 1, 8, none⟩ = some (.string x.new.data) := (h2.by_.cell 8).trans (by rw [← q6]; rfl)
  have c9 : W.cell? ⟨w.heap.size, 9, none⟩ = some (.int .i64 x.coord) := (h2.bx.cell 9).trans (rfl)
  have d9 : W.cell? ⟨w.heap.size + 1, 9, none⟩ = some (.int .i64 0) := (h2.by_.cell 9).trans (by show some (.int .i64 y.coord : Value) = _; rw [hz] <;> rfl)
  have H := Lib.hid (h2)
  clear h2 hnm hnl q0 q1 q2 q3 q4 q5 q6 hz
  go_enter Try.func19, Try.ntmps19
  dsimp only [List.append]
  go_wp2_with fail
  go_ret
  exact ⟨rfl, H.out.hb⟩
set_option maxHeartbeats 8000000 in
theorem same07_ne8 (x y : MD) (w : World) (q0 : y.kind = x.kind) (q1 : y.tx = x.tx) (q2 : y.prev = x.prev) (q3 : y.nxt = x.nxt) (q4 : y.key = x.key) (q5 : y.old = x.old) (q6 : y.new = x.new) (q7 : y.coord = x.coord) (hd : x.mem.length ≠ y.mem.length) :
    Calls Try.prog 19 #[mVal x, mVal y] w (FalseP w) := by
  obtain ⟨W, hW, h2⟩ := B2.mk' w x y
  obtain ⟨nm, hnm⟩ : ∃ nm, x.mem.length = nm := ⟨_, rfl⟩
  obtain ⟨nl, hnl⟩ : ∃ nl, x.locks.length = nl := ⟨_, rfl⟩
  have c0 : W.cell? ⟨w.heap.size, 0, none⟩ = some (.int .i64 x.kind) := (h2.bx.cell 0).trans (rfl)
  have d0 : W.cell? ⟨w.heap.size + 1, 0, none⟩ = some (.int .i64 x.kind) := (h2.by_.cell 0).trans (by rw [← q0]; rfl)
  have c1 : W.cell? ⟨w.heap.size, 1, none⟩ = some (.int .i64 x.tx) := (h2.bx.cell 1).trans (rfl)
  have d1 : W.cell? ⟨w.heap.size + 1, 1, none⟩ = some (.int .i64 x.tx) := (h2.by_.cell 1).trans (by rw [← q1]; rfl)
  have c2 : W.cell? ⟨w.heap.size, 2, none⟩ = some (.int .i64 x.prev) := (h2.bx.cell 2).trans (rfl)
  have d2 : W.cell? ⟨w.heap.size + 1, 2, none⟩ = some (.int .i64 x.prev) := (h2.by_.cell 2).trans (by rw [← q2]; rfl)
  have c3 : W.cell? ⟨w.heap.size, 3, none⟩ = some (.int .i64 x.nxt) := (h2.bx.cell 3).trans (rfl)
  have d3 : W.cell? ⟨w.heap.size + 1, 3, none⟩ = some (.int .i64 x.nxt) := (h2.by_.cell 3).trans (by rw [← q3]; rfl)
  have c4 : W.cell? ⟨w.heap.size, 4, none⟩ = some (.string x.key) := (h2.bx.cell 4).trans (rfl)
  have d4 : W.cell? ⟨w.heap.size + 1, 4, none⟩ = some (.string x.key) := (h2.by_.cell 4).trans (by rw [← q4]; rfl)
  have c5 : W.cell? ⟨w.heap.size, 5, none⟩ = some (.bool x.old.has) := (h2.bx.cell 5).trans (rfl)
  have d5 : W.cell? ⟨w.heap.size + 1, 5, none⟩ = some (.bool x.old.has) := (h2.by_.cell 5).trans (by rw [← q5]; rfl)
  have c6 : W.cell? ⟨w.heap.size, 6, none⟩ = some (.string x.old.data) := (h2.bx.cell 6).trans (rfl)
  have d6 : W.cell? ⟨w.heap.size + 1, 6, none⟩ = some (.string x.old.data) := (h2.by_.cell 6).trans (by rw [← q5]; rfl)
  have c7 : W.cell? ⟨w.heap.size, 7, none⟩ = some (.bool x.new.has) := (h2.bx.cell 7).trans (rfl)
  have d7 : W.cell? ⟨w.heap.size + 1, 7, none⟩ = some (.bool x.new.has) := (h2.by_.cell 7).trans (by rw [← q6]; rfl)
  have c8 : W.cell? ⟨w.heap.size, 8, none⟩ = some (.string x.new.data) := (h2.bx.cell 8).trans (rfl)
  have d8 : W.cell? ⟨w.heap.size + 1, 8, none⟩ = some (.string x.new.data) := (h2.by_.cell 8).trans (by rw [← q6]; rfl)
  have c9 : W.cell? ⟨w.heap.size, 9, none⟩ = some (.int .i64 x.coord) := (h2.bx.cell 9).trans (rfl)
  have d9 : W.cell? ⟨w.heap.size + 1, 9, none⟩ = some (.int .i64 x.coord) := (h2.by_.cell 9).trans (by rw [← q7]; rfl)
  have c10 : W.cell? ⟨w.heap.size, 10, none⟩ = some (.slice x.mA nm x.mc) := (h2.bx.cell 10).trans (by rw [← hnm]; rfl)
  obtain ⟨m, hm⟩ : ∃ m, y.mem.length = m := ⟨_, rfl⟩
  rw [hnm, hm] at hd
  have d10 : W.cell? ⟨w.heap.size + 1, 10, none⟩ = some (.slice y.mA m y.mc) := (h2.by_.cell 10).trans (by rw [← hm]; rfl)
  have H := Lib.hid (And.intro h2 (hd))
  clear h2 hd hnm hnl q0 q1 q2 q3 q4 q5 q6 q7 hm
  go_enter Try.func19, Try.ntmps19
  dsimp only [List.append]
  go_wp2_with fail
  refine (sameInts_ne x.mA y.mA nm m x.mc y.mc _ H.out.2).mono ?_
  rintro e w1 ⟨rfl, hb1⟩
  have H1 := Lib.hid hb1
  clear hb1
  go_wp2_with fail
  go_ret
  exact ⟨rfl, H.out.1.hb.trans (H1.out.mono H.out.1.hb.size)⟩
set_option maxHeartbeats 8000000 in
theorem same07_ne9 (x y : MD) (w : World) (hx : MOk w x) (hy : MOk w y) (hs : Small x) (q0 : y.kind = x.kind) (q1 : y.tx = x.tx) (q2 : y.prev = x.prev) (q3 : y.nxt = x.nxt) (q4 : y.key = x.key) (q5 : y.old = x.old) (q6 : y.new = x.new) (q7 : y.coord = x.coord) (q8 : y.mem = x.mem) (hd : x.locks.length ≠ y.locks.length) :
    Calls Try.prog 19 #[mVal x, mVal y] w (FalseP w) := by
  obtain ⟨W, hW, h2⟩ := B2.mk' w x y
  obtain ⟨nm, hnm⟩ : ∃ nm, x.mem.length = nm := ⟨_, rfl⟩
  obtain ⟨nl, hnl⟩ : ∃ nl, x.locks.length = nl := ⟨_, rfl⟩
  have c0 : W.cell? ⟨w.heap.size, 0, none⟩ = some (.int .i64 x.kind) := (h2.bx.cell 0).trans (rfl)
  have d0 : W.cell? ⟨w.heap.size + 1, 0, none⟩ = some (.int .i64 x.kind) := (h2.by_.cell 0).trans (by rw [← q0]; rfl)
  have c1 : W.cell? ⟨w.heap.size, 1, none⟩ = some (.int .i64 x.tx) := (h2.bx.cell 1).trans (rfl)
  have d1 : W.cell? ⟨w.heap.size + 1, 1, none⟩ = some (.int .i64 x.tx) := (h2.by_.cell 1).trans (by rw [← q1]; rfl)
  have c2 : W.cell? ⟨w.heap.size, 2, none⟩ = some (.int .i64 x.prev) := (h2.bx.cell 2).trans (rfl)
  have d2 : W.cell? ⟨w.heap.size + 1, 2, none⟩ = some (.int .i64 x.prev) := (h2.by_.cell 2).trans (by rw [← q2]; rfl)
  have c3 : W.cell? ⟨w.heap.size, 3, none⟩ = some (.int .i64 x.nxt) := (h2.bx.cell 3).trans (rfl)
  have d3 : W.cell? ⟨w.heap.size + 1, 3, none⟩ = some (.int .i64 x.nxt) := (h2.by_.cell 3).trans (by rw [← q3]; rfl)
  have c4 : W.cell? ⟨w.heap.size, 4, none⟩ = some (.string x.key) := (h2.bx.cell 4).trans (rfl)
  have d4 : W.cell? ⟨w.heap.size + 1, 4, none⟩ = some (.string x.key) := (h2.by_.cell 4).trans (by rw [← q4]; rfl)
  have c5 : W.cell? ⟨w.heap.size, 5, none⟩ = some (.bool x.old.has) := (h2.bx.cell 5).trans (rfl)
  have d5 : W.cell? ⟨w.heap.size + 1, 5, none⟩ = some (.bool x.old.has) := (h2.by_.cell 5).trans (by rw [← q5]; rfl)
  have c6 : W.cell? ⟨w.heap.size, 6, none⟩ = some (.string x.old.data) := (h2.bx.cell 6).trans (rfl)
  have d6 : W.cell? ⟨w.heap.size + 1, 6, none⟩ = some (.string x.old.data) := (h2.by_.cell 6).trans (by rw [← q5]; rfl)
  have c7 : W.cell? ⟨w.heap.size, 7, none⟩ = some (.bool x.new.has) := (h2.bx.cell 7).trans (rfl)
  have d7 : W.cell? ⟨w.heap.size + 1, 7, none⟩ = some (.bool x.new.has) := (h2.by_.cell 7).trans (by rw [← q6]; rfl)
  have c8 : W.cell? ⟨w.heap.size, 8, none⟩ = some (.string x.new.data) := (h2.bx.cell 8).trans (rfl)
  have d8 : W.cell? ⟨w.heap.size + 1, 8, none⟩ = some (.string x.new.data) := (h2.by_.cell 8).trans (by rw [← q6]; rfl)
  have c9 : W.cell? ⟨w.heap.size, 9, none⟩ = some (.int .i64 x.coord) := (h2.bx.cell 9).trans (rfl)
  have d9 : W.cell? ⟨w.heap.size + 1, 9, none⟩ = some (.int .i64 x.coord) := (h2.by_.cell 9).trans (by rw [← q7]; rfl)
  have c10 : W.cell? ⟨w.heap.size, 10, none⟩ = some (.slice x.mA nm x.mc) := (h2.bx.cell 10).trans (by rw [← hnm]; rfl)
  have d10 : W.cell? ⟨w.heap.size + 1, 10, none⟩ = some (.slice y.mA nm y.mc) := (h2.by_.cell 10).trans (by rw [← hnm, ← q8]; rfl)
  have c11 : W.cell? ⟨w.heap.size, 11, none⟩ = some (.slice x.lA nl x.lc) := (h2.bx.cell 11).trans (by rw [← hnl]; rfl)
  obtain ⟨m, hm⟩ : ∃ m, y.locks.length = m := ⟨_, rfl⟩
  rw [hnl, hm] at hd
  have d11 : W.cell? ⟨w.heap.size + 1, 11, none⟩ = some (.slice y.lA m y.lc) := (h2.by_.cell 11).trans (by rw [← hm]; rfl)
  have hm1 : IS W x.mA nm x.mem := by have g := (hx.below h2.hb).mem; rw [hnm] at g; exact g
  have hm2 : IS W y.mA nm x.mem := by have g := (hy.below h2.hb).mem; rw [q8, hnm] at g; exact g
  have hsm : nm ≤ 1000000 := by rw [← hnm]; exact hs.mem
  have H := Lib.hid (And.intro h2 (And.intro hd (And.intro hm1 (And.intro hm2 (hsm)))))
  clear h2 hd hm1 hm2 hsm hnm hnl q0 q1 q2 q3 q4 q5 q6 q7 q8 hx hy hs hm
  go_enter Try.func19, Try.ntmps19
  dsimp only [List.append]
  go_wp2_with fail
  refine (sameInts_eq x.mA y.mA nm x.mc y.mc x.mem _ H.out.2.2.1 H.out.2.2.2.1 H.out.2.2.2.2).mono ?_
  rintro e w1 ⟨rfl, hb1⟩
  have e0 := cell_below hb1 c11
  have e1 := cell_below hb1 d11
  have H1 := Lib.hid hb1
  clear hb1 c0 d0 c1 d1 c2 d2 c3 d3 c4 d4 c5 d5 c6 d6 c7 d7 c8 d8 c9 d9 c10 d10 c11 d11
  go_wp2_with fail
  refine (sameLocks_ne x.lA y.lA nl m x.lc y.lc _ H.out.2.1).mono ?_
  rintro e w2 ⟨rfl, hb2⟩
  have H2 := Lib.hid (H1.out.trans (hb2.mono H1.out.size))
  clear hb2 e0 e1
  go_wp2_with fail
  go_ret
  exact ⟨rfl, H.out.1.hb.trans (H2.out.mono H.out.1.hb.size)⟩
set_option maxHeartbeats 8000000 in
theorem same07_ne10 (x y : MD) (w : World) (hx : MOk w x) (hy : MOk w y) (hs : Small x) (q0 : y.kind = x.kind) (q1 : y.tx = x.tx) (q2 : y.prev = x.prev) (q3 : y.nxt = x.nxt) (q4 : y.key = x.key) (q5 : y.old = x.old) (q6 : y.new = x.new) (q7 : y.coord = x.coord) (q8 : y.mem = x.mem) (q9 : y.locks = x.locks) (hd : ∀ W, Calls Try.prog 57 #[mVal x, mVal y] W (FalseP W)) :
    Calls Try.prog 19 #[mVal x, mVal y] w (FalseP w) := by
  obtain ⟨W, hW, h2⟩ := B2.mk' w x y
  obtain ⟨nm, hnm⟩ : ∃ nm, x.mem.length = nm := ⟨_, rfl⟩
  obtain ⟨nl, hnl⟩ : ∃ nl, x.locks.length = nl := ⟨_, rfl⟩
  have c0 : W.cell? ⟨w.heap.size, 0, none⟩ = some (.int .i64 x.kind) := (h2.bx.cell 0).trans (rfl)
  have d0 : W.cell? ⟨w.heap.size + 1, 0, none⟩ = some (.int .i64 x.kind) := (h2.by_.cell 0).trans (by rw [← q0]; rfl)
  have c1 : W.cell? ⟨w.heap.size, 1, none⟩ = some (.int .i64 x.tx) := (h2.bx.cell 1).trans (rfl)
  have d1 : W.cell? ⟨w.heap.size + 1, 1, none⟩ = some (.int .i64 x.tx) := (h2.by_.cell 1).trans (by rw [← q1]; rfl)
  have c2 : W.cell? ⟨w.heap.size, 2, none⟩ = some (.int .i64 x.prev) := (h2.bx.cell 2).trans (rfl)
  have d2 : W.cell? ⟨w.heap.size + 1, 2, none⟩ = some (.int .i64 x.prev) := (h2.by_.cell 2).trans (by rw [← q2]; rfl)
  have c3 : W.cell? ⟨w.heap.size, 3, none⟩ = some (.int .i64 x.nxt) := (h2.bx.cell 3).trans (rfl)
  have d3 : W.cell? ⟨w.heap.size + 1, 3, none⟩ = some (.int .i64 x.nxt) := (h2.by_.cell 3).trans (by rw [← q3]; rfl)
  have c4 : W.cell? ⟨w.heap.size, 4, none⟩ = some (.string x.key) := (h2.bx.cell 4).trans (rfl)
  have d4 : W.cell? ⟨w.heap.size + 1, 4, none⟩ = some (.string x.key) := (h2.by_.cell 4).trans (by rw [← q4]; rfl)
  have c5 : W.cell? ⟨w.heap.size, 5, none⟩ = some (.bool x.old.has) := (h2.bx.cell 5).trans (rfl)
  have d5 : W.cell? ⟨w.heap.size + 1, 5, none⟩ = some (.bool x.old.has) := (h2.by_.cell 5).trans (by rw [← q5]; rfl)
  have c6 : W.cell? ⟨w.heap.size, 6, none⟩ = some (.string x.old.data) := (h2.bx.cell 6).trans (rfl)
  have d6 : W.cell? ⟨w.heap.size + 1, 6, none⟩ = some (.string x.old.data) := (h2.by_.cell 6).trans (by rw [← q5]; rfl)
  have c7 : W.cell? ⟨w.heap.size, 7, none⟩ = some (.bool x.new.has) := (h2.bx.cell 7).trans (rfl)
  have d7 : W.cell? ⟨w.heap.size + 1, 7, none⟩ = some (.bool x.new.has) := (h2.by_.cell 7).trans (by rw [← q6]; rfl)
  have c8 : W.cell? ⟨w.heap.size, 8, none⟩ = some (.string x.new.data) := (h2.bx.cell 8).trans (rfl)
  have d8 : W.cell? ⟨w.heap.size + 1, 8, none⟩ = some (.string x.new.data) := (h2.by_.cell 8).trans (by rw [← q6]; rfl)
  have c9 : W.cell? ⟨w.heap.size, 9, none⟩ = some (.int .i64 x.coord) := (h2.bx.cell 9).trans (rfl)
  have d9 : W.cell? ⟨w.heap.size + 1, 9, none⟩ = some (.int .i64 x.coord) := (h2.by_.cell 9).trans (by rw [← q7]; rfl)
  have c10 : W.cell? ⟨w.heap.size, 10, none⟩ = some (.slice x.mA nm x.mc) := (h2.bx.cell 10).trans (by rw [← hnm]; rfl)
  have d10 : W.cell? ⟨w.heap.size + 1, 10, none⟩ = some (.slice y.mA nm y.mc) := (h2.by_.cell 10).trans (by rw [← hnm, ← q8]; rfl)
  have c11 : W.cell? ⟨w.heap.size, 11, none⟩ = some (.slice x.lA nl x.lc) := (h2.bx.cell 11).trans (by rw [← hnl]; rfl)
  have d11 : W.cell? ⟨w.heap.size + 1, 11, none⟩ = some (.slice y.lA nl y.lc) := (h2.by_.cell 11).trans (by rw [← hnl, ← q9]; rfl)
  have hm1 : IS W x.mA nm x.mem := by have g := (hx.below h2.hb).mem; rw [hnm] at g; exact g
  have hm2 : IS W y.mA nm x.mem := by have g := (hy.below h2.hb).mem; rw [q8, hnm] at g; exact g
  have hsm : nm ≤ 1000000 := by rw [← hnm]; exact hs.mem
  have hl1 : ST lockK W x.lA nl x.locks := by have g := (hx.below h2.hb).locks; rw [hnl] at g; exact g
  have hl2 : ST lockK W y.lA nl x.locks := by have g := (hy.below h2.hb).locks; rw [q9, hnl] at g; exact g
  have hsl : nl ≤ 1000000 := by rw [← hnl]; exact hs.locks
  have H := Lib.hid (And.intro h2 (And.intro hd (And.intro hm1 (And.intro hm2 (And.intro hsm (And.intro hl1 (And.intro hl2 (hsl))))))))
  clear h2 hd hm1 hm2 hsm hl1 hl2 hsl hnm hnl q0 q1 q2 q3 q4 q5 q6 q7 q8 q9 hx hy hs
  go_enter Try.func19, Try.ntmps19
  dsimp only [List.append]
  go_wp2_with fail
  refine (sameInts_eq x.mA y.mA nm x.mc y.mc x.mem _ H.out.2.2.1 H.out.2.2.2.1 H.out.2.2.2.2.1).mono ?_
  rintro e w1 ⟨rfl, hb1⟩
  have e0 := cell_below hb1 c11
  have e1 := cell_below hb1 d11
  have H1 := Lib.hid hb1
  clear hb1 c0 d0 c1 d1 c2 d2 c3 d3 c4 d4 c5 d5 c6 d6 c7 d7 c8 d8 c9 d9 c10 d10 c11 d11
  go_wp2_with fail
  refine (sameLocks_eq x.lA y.lA nl x.lc y.lc x.locks _ (H.out.2.2.2.2.2.1.below H1.out) (H.out.2.2.2.2.2.2.1.below H1.out) H.out.2.2.2.2.2.2.2).mono ?_
  rintro e w2 ⟨rfl, hb2⟩
  have H2 := Lib.hid (H1.out.trans (hb2.mono H1.out.size))
  clear hb2 e0 e1
  have hbx := H.out.1.bx.below H2.out H.out.1.bx.lt
  have hby := H.out.1.by_.below H2.out H.out.1.by_.lt
  go_wp2_with (first | (refine wpList_load_rec' _ (by rfl) (by rfl) (by rfl) hbx ?_) | (refine wpList_load_rec' _ (by rfl) (by rfl) (by rfl) hby ?_))
  refine (H.out.2.1 _).mono ?_
  rintro e w3 ⟨rfl, hb3⟩
  have H3 := Lib.hid (H2.out.trans (hb3.mono H2.out.size))
  clear hb3 hbx hby
  go_wp2_with fail
  go_ret
  exact ⟨rfl, H.out.1.hb.trans (H3.out.mono H.out.1.hb.size)⟩
end Go.Proofs.Ytlijfnekopjogaa
