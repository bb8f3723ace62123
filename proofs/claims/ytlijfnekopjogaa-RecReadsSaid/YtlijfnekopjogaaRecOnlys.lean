/- RecOnlys: joined out of RecSame5, RecOnly. -/
import Derived.Test.YtlijfnekopjogaaRecSames
import Derived.Test.YtlijfnekopjogaaRecD0
import Derived.Deep.DeepCutAuto
/- The same record, of two whose first difference is a nought (printed by gen_samene.py). -/
namespace Go.Proofs.Ytlijfnekopjogaa
open Go Go.RowKit Mem Rc
set_option maxRecDepth 100000
set_option linter.unusedVariables false
set_option linter.unusedSimpArgs false

/-- two, boxed -/
structure B2 (w W : World) (x y : MD) : Prop where
  hb : Below w.heap.size w W
  bx : Blk W w.heap.size 30 (mCells x)
  by_ : Blk W (w.heap.size + 1) 30 (mCells y)
theorem B2.mk' (w : World) (x y : MD) : ∃ W, (w.alloc (.cells (mCells x) 30)).alloc (.cells (mCells y) 30) = W ∧ B2 w W x y := by
  refine ⟨_, rfl, ((Below.refl _ _).alloc (Nat.le_refl _) _).alloc (by simp) _, (Blk.new _ _ _).alloc _, ?_⟩
  have := Blk.new (w.alloc (.cells (mCells x) 30)) 30 (mCells y)
  rwa [show (w.alloc (.cells (mCells x) 30)).heap.size = w.heap.size + 1 by simp] at this
set_option maxHeartbeats 8000000 in
theorem sameLists_ne0 (x y : MD) (w : World)  (hd : x.rows.length ≠ y.rows.length) :
    Calls Try.prog 57 #[mVal x, mVal y] w (FalseP w) := by
  obtain ⟨W, hW, h2⟩ := B2.mk' w x y
  obtain ⟨n0, hn0⟩ : ∃ n0, x.rows.length = n0 := ⟨_, rfl⟩
  have c0 : W.cell? ⟨w.heap.size, 12, none⟩ = some (.slice x.rA n0 x.rc) := (h2.bx.cell 12).trans (by rw [← hn0]; rfl)
  obtain ⟨m, hm⟩ : ∃ m, y.rows.length = m := ⟨_, rfl⟩
  have d0 : W.cell? ⟨w.heap.size + 1, 12, none⟩ = some (.slice y.rA m y.rc) := (h2.by_.cell 12).trans (by rw [← hm]; rfl)
  rw [hn0, hm] at hd
  have hb : ((n0 : Int) != (m : Int)) = true := by rw [bne_iff_ne]; omega
  have H := Lib.hid (And.intro h2.hb hd)
  clear h2 hd hm hn0 
  go_enter Try.func57, Try.ntmps57
  go_wp2_with fail
  go_ret
  exact ⟨rfl, H.out.1⟩
set_option maxHeartbeats 8000000 in
theorem sameLists_ne1 (x y : MD) (w : World) (q0 : y.rows.length = x.rows.length) (hd : x.dirty.length ≠ y.dirty.length) :
    Calls Try.prog 57 #[mVal x, mVal y] w (FalseP w) := by
  obtain ⟨W, hW, h2⟩ := B2.mk' w x y
  obtain ⟨n0, hn0⟩ : ∃ n0, x.rows.length = n0 := ⟨_, rfl⟩
  have c0 : W.cell? ⟨w.heap.size, 12, none⟩ = some (.slice x.rA n0 x.rc) := (h2.bx.cell 12).trans (by rw [← hn0]; rfl)
  have d0 : W.cell? ⟨w.heap.size + 1, 12, none⟩ = some (.slice y.rA n0 y.rc) := (h2.by_.cell 12).trans (by rw [← hn0, ← q0]; rfl)
  obtain ⟨n1, hn1⟩ : ∃ n1, x.dirty.length = n1 := ⟨_, rfl⟩
  have c1 : W.cell? ⟨w.heap.size, 13, none⟩ = some (.slice x.dA n1 x.dc) := (h2.bx.cell 13).trans (by rw [← hn1]; rfl)
  obtain ⟨m, hm⟩ : ∃ m, y.dirty.length = m := ⟨_, rfl⟩
  have d1 : W.cell? ⟨w.heap.size + 1, 13, none⟩ = some (.slice y.dA m y.dc) := (h2.by_.cell 13).trans (by rw [← hm]; rfl)
  rw [hn1, hm] at hd
  have hb : ((n1 : Int) != (m : Int)) = true := by rw [bne_iff_ne]; omega
  have H := Lib.hid (And.intro h2.hb hd)
  clear h2 hd hm hn0 hn1 q0
  go_enter Try.func57, Try.ntmps57
  go_wp2_with fail
  go_ret
  exact ⟨rfl, H.out.1⟩
set_option maxHeartbeats 8000000 in
theorem sameLists_ne2 (x y : MD) (w : World) (q0 : y.rows.length = x.rows.length) (q1 : y.dirty.length = x.dirty.length) (hd : x.deeds.length ≠ y.deeds.length) :
    Calls Try.prog 57 #[mVal x, mVal y] w (FalseP w) := by
  obtain ⟨W, hW, h2⟩ := B2.mk' w x y
  obtain ⟨n0, hn0⟩ : ∃ n0, x.rows.length = n0 := ⟨_, rfl⟩
  have c0 : W.cell? ⟨w.heap.size, 12, none⟩ = some (.slice x.rA n0 x.rc) := (h2.bx.cell 12).trans (by rw [← hn0]; rfl)
  have d0 : W.cell? ⟨w.heap.size + 1, 12, none⟩ = some (.slice y.rA n0 y.rc) := (h2.by_.cell 12).trans (by rw [← hn0, ← q0]; rfl)
  obtain ⟨n1, hn1⟩ : ∃ n1, x.dirty.length = n1 := ⟨_, rfl⟩
  have c1 : W.cell? ⟨w.heap.size, 13, none⟩ = some (.slice x.dA n1 x.dc) := (h2.bx.cell 13).trans (by rw [← hn1]; rfl)
  have d1 : W.cell? ⟨w.heap.size + 1, 13, none⟩ = some (.slice y.dA n1 y.dc) := (h2.by_.cell 13).trans (by rw [← hn1, ← q1]; rfl)
  obtain ⟨n2, hn2⟩ : ∃ n2, x.deeds.length = n2 := ⟨_, rfl⟩
  have c2 : W.cell? ⟨w.heap.size, 14, none⟩ = some (.slice x.eA n2 x.ec) := (h2.bx.cell 14).trans (by rw [← hn2]; rfl)
  obtain ⟨m, hm⟩ : ∃ m, y.deeds.length = m := ⟨_, rfl⟩
  have d2 : W.cell? ⟨w.heap.size + 1, 14, none⟩ = some (.slice y.eA m y.ec) := (h2.by_.cell 14).trans (by rw [← hm]; rfl)
  rw [hn2, hm] at hd
  have hb : ((n2 : Int) != (m : Int)) = true := by rw [bne_iff_ne]; omega
  have H := Lib.hid (And.intro h2.hb hd)
  clear h2 hd hm hn0 hn1 hn2 q0 q1
  go_enter Try.func57, Try.ntmps57
  go_wp2_with fail
  go_ret
  exact ⟨rfl, H.out.1⟩
set_option maxHeartbeats 8000000 in
theorem sameLists_ne3 (x y : MD) (w : World) (q0 : y.rows.length = x.rows.length) (q1 : y.dirty.length = x.dirty.length) (q2 : y.deeds.length = x.deeds.length) (hd : x.past.length ≠ y.past.length) :
    Calls Try.prog 57 #[mVal x, mVal y] w (FalseP w) := by
  obtain ⟨W, hW, h2⟩ := B2.mk' w x y
  obtain ⟨n0, hn0⟩ : ∃ n0, x.rows.length = n0 := ⟨_, rfl⟩
  have c0 : W.cell? ⟨w.heap.size, 12, none⟩ = some (.slice x.rA n0 x.rc) := (h2.bx.cell 12).trans (by rw [← hn0]; rfl)
  have d0 : W.cell? ⟨w.heap.size + 1, 12, none⟩ = some (.slice y.rA n0 y.rc) := (h2.by_.cell 12).trans (by rw [← hn0, ← q0]; rfl)
  obtain ⟨n1, hn1⟩ : ∃ n1, x.dirty.length = n1 := ⟨_, rfl⟩
  have c1 : W.cell? ⟨w.heap.size, 13, none⟩ = some (.slice x.dA n1 x.dc) := (h2.bx.cell 13).trans (by rw [← hn1]; rfl)
  have d1 : W.cell? ⟨w.heap.size + 1, 13, none⟩ = some (.slice y.dA n1 y.dc) := (h2.by_.cell 13).trans (by rw [← hn1, ← q1]; rfl)
  obtain ⟨n2, hn2⟩ : ∃ n2, x.deeds.length = n2 := ⟨_, rfl⟩
  have c2 : W.cell? ⟨w.heap.size, 14, none⟩ = some (.slice x.eA n2 x.ec) := (h2.bx.cell 14).trans (by rw [← hn2]; rfl)
  have d2 : W.cell? ⟨w.heap.size + 1, 14, none⟩ = some (.slice y.eA n2 y.ec) := (h2.by_.cell 14).trans (by rw [← hn2, ← q2]; rfl)
  obtain ⟨n3, hn3⟩ : ∃ n3, x.past.length = n3 := ⟨_, rfl⟩
  have c3 : W.cell? ⟨w.heap.size, 15, none⟩ = some (.slice x.pA n3 x.pc) := (h2.bx.cell 15).trans (by rw [← hn3]; rfl)
  obtain ⟨m, hm⟩ : ∃ m, y.past.length = m := ⟨_, rfl⟩
  have d3 : W.cell? ⟨w.heap.size + 1, 15, none⟩ = some (.slice y.pA m y.pc) := (h2.by_.cell 15).trans (by rw [← hm]; rfl)
  rw [hn3, hm] at hd
  have hb : ((n3 : Int) != (m : Int)) = true := by rw [bne_iff_ne]; omega
  have H := Lib.hid (And.intro h2.hb hd)
  clear h2 hd hm hn0 hn1 hn2 hn3 q0 q1 q2
  go_enter Try.func57, Try.ntmps57
  go_wp2_with fail
  refine (sameInts_ne x.pA y.pA n3 m x.pc y.pc _ H.out.2).mono ?_
  rintro e w1 ⟨rfl, hb1⟩
  have H1 := Lib.hid (H.out.1.trans (hb1.mono H.out.1.size))
  clear hb1
  go_wp2_with fail
  go_ret
  exact ⟨rfl, H1.out⟩
set_option maxHeartbeats 8000000 in
theorem same07_ne1 (x y : MD) (w : World) (q0 : y.kind = x.kind) (hz : y.tx = 0) (hd : (x.tx == 0) = false) :
    Calls Try.prog 19 #[mVal x, mVal y] w (FalseP w) := by
  obtain ⟨W, hW, h2⟩ := B2.mk' w x y
  obtain ⟨nm, hnm⟩ : ∃ nm, x.mem.length = nm := ⟨_, rfl⟩
  obtain ⟨nl, hnl⟩ : ∃ nl, x.locks.length = nl := ⟨_, rfl⟩
  have c0 : W.cell? ⟨w.heap.size, 0, none⟩ = some (.int .i64 x.kind) := (h2.bx.cell 0).trans (rfl)
  have d0 : W.cell? ⟨w.heap.size + 1, 0, none⟩ = some (.int .i64 x.kind) := (h2.by_.cell 0).trans (by rw [← q0]; rfl)
  have c1 : W.cell? ⟨w.heap.size, 1, none⟩ = some (.int .i64 x.tx) := (h2.bx.cell 1).trans (rfl)
  have d1 : W.cell? ⟨w.heap.size + 1, 1, none⟩ = some (.int .i64 0) := (h2.by_.cell 1).trans (by show some (.int .i64 y.tx : Value) = _; rw [hz] <;> rfl)
  have H := Lib.hid (h2)
  clear h2 hnm hnl q0 hz
  go_enter Try.func19, Try.ntmps19
  dsimp only [List.append]
  go_wp2_with fail
  go_ret
  exact ⟨rfl, H.out.hb⟩
set_option maxHeartbeats 8000000 in
theorem same07_ne2 (x y : MD) (w : World) (q0 : y.kind = x.kind) (q1 : y.tx = x.tx) (hz : y.prev = 0) (hd : (x.prev == 0) = false) :
    Calls Try.prog 19 #[mVal x, mVal y] w (FalseP w) := by
  obtain ⟨W, hW, h2⟩ := B2.mk' w x y
  obtain ⟨nm, hnm⟩ : ∃ nm, x.mem.length = nm := ⟨_, rfl⟩
  obtain ⟨nl, hnl⟩ : ∃ nl, x.locks.length = nl := ⟨_, rfl⟩
  have c0 : W.cell? ⟨w.heap.size, 0, none⟩ = some (.int .i64 x.kind) := (h2.bx.cell 0).trans (rfl)
  have d0 : W.cell? ⟨w.heap.size + 1, 0, none⟩ = some (.int .i64 x.kind) := (h2.by_.cell 0).trans (by rw [← q0]; rfl)
  have c1 : W.cell? ⟨w.heap.size, 1, none⟩ = some (.int .i64 x.tx) := (h2.bx.cell 1).trans (rfl)
  have d1 : W.cell? ⟨w.heap.size + 1, 1, none⟩ = some (.int .i64 x.tx) := (h2.by_.cell 1).trans (by rw [← q1]; rfl)
  have c2 : W.cell? ⟨w.heap.size, 2, none⟩ = some (.int .i64 x.prev) := (h2.bx.cell 2).trans (rfl)
  have d2 : W.cell? ⟨w.heap.size + 1, 2, none⟩ = some (.int .i64 0) := (h2.by_.cell 2).trans (by show some (.int .i64 y.prev : Value) = _; rw [hz] <;> rfl)
  have H := Lib.hid (h2)
  clear h2 hnm hnl q0 q1 hz
  go_enter Try.func19, Try.ntmps19
  dsimp only [List.append]
  go_wp2_with fail
  go_ret
  exact ⟨rfl, H.out.hb⟩
set_option maxHeartbeats 8000000 in
theorem same07_ne3 (x y : MD) (w : World) (q0 : y.kind = x.kind) (q1 : y.tx = x.tx) (q2 : y.prev = x.prev) (hz : y.nxt = 0) (hd : (x.nxt == 0) = false) :
    Calls Try.prog 19 #[mVal x, mVal y] w (FalseP w) := by
  obtain ⟨W, hW, h2⟩ := B2.mk' w x y
  obtain ⟨nm, hnm⟩ : ∃ nm, x.mem.length = nm := ⟨_, rfl⟩
  obtain ⟨nl, hnl⟩ : ∃ nl, x.locks.length = nl := ⟨_, rfl⟩
  have c0 : W.cell? ⟨w.heap.size, 0, none⟩ = some (.int .i64 x.kind) := (h2.bx.cell 0).trans (rfl)
  have d0 : W.cell? ⟨w.heap.size + 1, 0, none⟩ = some (.int .i64 x.kind) := (h2.by_.cell 0).trans (by rw [← q0]; rfl)
  have c1 : W.cell? ⟨w.heap.size, 1, none⟩ = some (.int .i64 x.tx) := (h2.bx.cell 1).trans (rfl)
  have d1 : W.cell? ⟨w.heap.size + 1, 1, none⟩ = some (.int .i64 x.tx) := (h2.by_.cell 1).trans (by rw [← q1]; rfl)
  have c2 : W.cell? ⟨w.heap.size, 2, none⟩ = some (.int .i64 x.prev) := (h2.bx.cell 2).trans (rfl)
  have d2 : W.cell? ⟨w.heap.size + 1, 2, none⟩ = some (.int .i64 x.prev) := (h2.by_.cell 2).trans (by rw [← q2]; rfl)
  have c3 : W.cell? ⟨w.heap.size, 3, none⟩ = some (.int .i64 x.nxt) := (h2.bx.cell 3).trans (rfl)
  have d3 : W.cell? ⟨w.heap.size + 1, 3, none⟩ = some (.int .i64 0) := (h2.by_.cell 3).trans (by show some (.int .i64 y.nxt : Value) = _; rw [hz] <;> rfl)
  have H := Lib.hid (h2)
  clear h2 hnm hnl q0 q1 q2 hz
  go_enter Try.func19, Try.ntmps19
  dsimp only [List.append]
  go_wp2_with fail
  go_ret
  exact ⟨rfl, H.out.hb⟩
set_option maxHeartbeats 8000000 in
theorem same07_ne4 (x y : MD) (w : World) (q0 : y.kind = x.kind) (q1 : y.tx = x.tx) (q2 : y.prev = x.prev) (q3 : y.nxt = x.nxt) (hz : y.key = ⟨#[]⟩) (hd : x.key.toList.isEmpty = false) :
    Calls Try.prog 19 #[mVal x, mVal y] w (FalseP w) := by
  obtain ⟨W, hW, h2⟩ := B2.mk' w x y
  obtain ⟨nm, hnm⟩ : ∃ nm, x.mem.length = nm := ⟨_, rfl⟩
  obtain ⟨nl, hnl⟩ : ∃ nl, x.locks.length = nl := ⟨_, rfl⟩
  have c0 : W.cell? ⟨w.heap.size, 0, none⟩ = some (.int .i64 x.kind) := (h2.bx.cell 0).trans (rfl)
  have d0 : W.cell? ⟨w.heap.size + 1, 0, none⟩ = some (.int .i64 x.kind) := (h2.by_.cell 0).trans (by rw [← q0]; rfl)
  have c1 : W.cell? ⟨w.heap.size, 1, none⟩ = some (.int .i64 x.tx) := (h2.bx.cell 1).trans (rfl)
  have d1 : W.cell? ⟨w.heap.size + 1, 1, none⟩ = some (.int .i64 x.tx) := (h2.by_.cell 1).trans (by rw [← q1]; rfl)
  have c2 : W.cell? ⟨w.heap.size, 2, none⟩ = some (.int .i64 x.prev) := (h2.bx.cell 2).trans (rfl)
  have d2 : W.cell? ⟨w.heap.size + 1, 2, none⟩ = some (.int .i64 x.prev) := (h2.by_.cell 2).trans (by rw [← q2]; rfl)
  have c3 : W.cell? ⟨w.heap.size, 3, none⟩ = some (.int .i64 x.nxt) := (h2.bx.cell 3).trans (rfl)
  have d3 : W.cell? ⟨w.heap.size + 1, 3, none⟩ = some (.int .i64 x.nxt) := (h2.by_.cell 3).trans (by rw [← q3]; rfl)
  have c4 : W.cell? ⟨w.heap.size, 4, none⟩ = some (.string x.key) := (h2.bx.cell 4).trans (rfl)
  have d4 : W.cell? ⟨w.heap.size + 1, 4, none⟩ = some (.string ⟨#[]⟩) := (h2.by_.cell 4).trans (by show some (.string y.key : Value) = _; rw [hz] <;> rfl)
  have H := Lib.hid (h2)
  clear h2 hnm hnl q0 q1 q2 q3 hz
  go_enter Try.func19, Try.ntmps19
  dsimp only [List.append]
  go_wp2_with fail
  go_ret
  exact ⟨rfl, H.out.hb⟩
set_option maxHeartbeats 8000000 in
theorem same07_ne5 (x y : MD) (w : World) (q0 : y.kind = x.kind) (q1 : y.tx = x.tx) (q2 : y.prev = x.prev) (q3 : y.nxt = x.nxt) (q4 : y.key = x.key) (hz : y.old = V.zero) (hd : x.old.has = true) :
    Calls Try.prog 19 #[mVal x, mVal y] w (FalseP w) := by
  obtain ⟨W, hW, h2⟩ := B2.mk' w x y
  obtain ⟨nm, hnm⟩ : ∃ nm, x.mem.length = nm := ⟨_, rfl⟩
  obtain ⟨nl, hnl⟩ : ∃ nl, x.locks.length = nl := ⟨_, rfl⟩
  have c0 : W.cell? ⟨w.heap.size, 0, none⟩ = some (.int .i64 x.kind) := (h2.bx.cell 0).trans (rfl)
  have d0 : W.cell? ⟨w.heap.size + 1, 0, none⟩ = some (.int .i64 x.kind) := (h2.by_.cell 0).trans (by rw [← q0]; rfl)
  have c1 : W.cell? ⟨w.heap.size, 1, none⟩ = some (.int .i64 x.tx) := (h2.bx.cell 1).trans (rfl)
  have d1 : W.cell? ⟨w.heap.size + 1, 1, none⟩ = some (.int .i64 x.tx) := (h2.by_.cell 1).trans (by rw [← q1]; rfl)
  have c2 : W.cell? ⟨w.heap.size, 2, none⟩ = some (.int .i64 x.prev) := (h2.bx.cell 2).trans (rfl)
  have d2 : W.cell? ⟨w.heap.size + 1, 2, none⟩ = some (.int .i64 x.prev) := (h2.by_.cell 2).trans (by rw [← q2]; rfl)
  have c3 : W.cell? ⟨w.heap.size, 3, none⟩ = some (.int .i64 x.nxt) := (h2.bx.cell 3).trans (rfl)
  have d3 : W.cell? ⟨w.heap.size + 1, 3, none⟩ = some (.int .i64 x.nxt) := (h2.by_.cell 3).trans (by rw [← q3]; rfl)
  have c4 : W.cell? ⟨w.heap.size, 4, none⟩ = some (.string x.key) := (h2.bx.cell 4).trans (rfl)
  have d4 : W.cell? ⟨w.heap.size + 1, 4, none⟩ = some (.string x.key) := (h2.by_.cell 4).trans (by rw [← q4]; rfl)
  have c5 : W.cell? ⟨w.heap.size, 5, none⟩ = some (.bool x.old.has) := (h2.bx.cell 5).trans (rfl)
  have d5 : W.cell? ⟨w.heap.size + 1, 5, none⟩ = some (.bool false) := (h2.by_.cell 5).trans (by show some (.bool y.old.has : Value) = _; rw [hz] <;> rfl)
  have c6 : W.cell? ⟨w.heap.size, 6, none⟩ = some (.string x.old.data) := (h2.bx.cell 6).trans (rfl)
  have d6 : W.cell? ⟨w.heap.size + 1, 6, none⟩ = some (.string ⟨#[]⟩) := (h2.by_.cell 6).trans (by show some (.string y.old.data : Value) = _; rw [hz] <;> rfl)
  have H := Lib.hid (h2)
  clear h2 hnm hnl q0 q1 q2 q3 q4 hz
  go_enter Try.func19, Try.ntmps19
  dsimp only [List.append]
  go_wp2_with fail
  go_ret
  exact ⟨rfl, H.out.hb⟩
set_option maxHeartbeats 8000000 in
theorem same07_ne5b (x y : MD) (w : World) (q0 : y.kind = x.kind) (q1 : y.tx = x.tx) (q2 : y.prev = x.prev) (q3 : y.nxt = x.nxt) (q4 : y.key = x.key) (hz : y.old = V.zero) (hd : x.old.has = false) (hd2 : x.old.data.toList.isEmpty = false) :
    Calls Try.prog 19 #[mVal x, mVal y] w (FalseP w) := by
  obtain ⟨W, hW, h2⟩ := B2.mk' w x y
  obtain ⟨nm, hnm⟩ : ∃ nm, x.mem.length = nm := ⟨_, rfl⟩
  obtain ⟨nl, hnl⟩ : ∃ nl, x.locks.length = nl := ⟨_, rfl⟩
  have c0 : W.cell? ⟨w.heap.size, 0, none⟩ = some (.int .i64 x.kind) := (h2.bx.cell 0).trans (rfl)
  have d0 : W.cell? ⟨w.heap.size + 1, 0, none⟩ = some (.int .i64 x.kind) := (h2.by_.cell 0).trans (by rw [← q0]; rfl)
  have c1 : W.cell? ⟨w.heap.size, 1, none⟩ = some (.int .i64 x.tx) := (h2.bx.cell 1).trans (rfl)
  have d1 : W.cell? ⟨w.heap.size + 1, 1, none⟩ = some (.int .i64 x.tx) := (h2.by_.cell 1).trans (by rw [← q1]; rfl)
  have c2 : W.cell? ⟨w.heap.size, 2, none⟩ = some (.int .i64 x.prev) := (h2.bx.cell 2).trans (rfl)
  have d2 : W.cell? ⟨w.heap.size + 1, 2, none⟩ = some (.int .i64 x.prev) := (h2.by_.cell 2).trans (by rw [← q2]; rfl)
  have c3 : W.cell? ⟨w.heap.size, 3, none⟩ = some (.int .i64 x.nxt) := (h2.bx.cell 3).trans (rfl)
  have d3 : W.cell? ⟨w.heap.size + 1, 3, none⟩ = some (.int .i64 x.nxt) := (h2.by_.cell 3).trans (by rw [← q3]; rfl)
  have c4 : W.cell? ⟨w.heap.size, 4, none⟩ = some (.string x.key) := (h2.bx.cell 4).trans (rfl)
  have d4 : W.cell? ⟨w.heap.size + 1, 4, none⟩ = some (.string x.key) := (h2.by_.cell 4).trans (by rw [← q4]; rfl)
  have c5 : W.cell? ⟨w.heap.size, 5, none⟩ = some (.bool x.old.has) := (h2.bx.cell 5).trans (rfl)
  have d5 : W.cell? ⟨w.heap.size + 1, 5, none⟩ = some (.bool false) := (h2.by_.cell 5).trans (by show some (.bool y.old.has : Value) = _; rw [hz] <;> rfl)
  have c6 : W.cell? ⟨w.heap.size, 6, none⟩ = some (.string x.old.data) := (h2.bx.cell 6).trans (rfl)
  have d6 : W.cell? ⟨w.heap.size + 1, 6, none⟩ = some (.string ⟨#[]⟩) := (h2.by_.cell 6).trans (by show some (.string y.old.data : Value) = _; rw [hz] <;> rfl)
  have H := Lib.hid (h2)
  clear h2 hnm hnl q0 q1 q2 q3 q4 hz
  go_enter Try.func19, Try.ntmps19
  dsimp only [List.append]
  go_wp2_with fail
  go_ret
  exact ⟨rfl, H.out.hb⟩
set_option maxHeartbeats 8000000 in
theorem same07_ne6 (x y : MD) (w : World) (q0 : y.kind = x.kind) (q1 : y.tx = x.tx) (q2 : y.prev = x.prev) (q3 : y.nxt = x.nxt) (q4 : y.key = x.key) (q5 : y.old = x.old) (hz : y.new = V.zero) (hd : x.new.has = true) :
    Calls Try.prog 19 #[mVal x, mVal y] w (FalseP w) := by
  obtain ⟨W, hW, h2⟩ := B2.mk' w x y
  obtain ⟨nm, hnm⟩ : ∃ nm, x.mem.length = nm := ⟨_, rfl⟩
  obtain ⟨nl, hnl⟩ : ∃ nl, x.locks.length = nl := ⟨_, rfl⟩
  have c0 : W.cell? ⟨w.heap.size, 0, none⟩ = some (.int .i64 x.kind) := (h2.bx.cell 0).trans (rfl)
  have d0 : W.cell? ⟨w.heap.size + 1, 0, none⟩ = some (.int .i64 x.kind) := (h2.by_.cell 0).trans (by rw [← q0]; rfl)
  have c1 : W.cell? ⟨w.heap.size, 1, none⟩ = some (.int .i64 x.tx) := (h2.bx.cell 1).trans (rfl)
  have d1 : W.cell? ⟨w.heap.size + 1, 1, none⟩ = some (.int .i64 x.tx) := (h2.by_.cell 1).trans (by rw [← q1]; rfl)
  have c2 : W.cell? ⟨w.heap.size, 2, none⟩ = some (.int .i64 x.prev) := (h2.bx.cell 2).trans (rfl)
  have d2 : W.cell? ⟨w.heap.size + 1, 2, none⟩ = some (.int .i64 x.prev) := (h2.by_.cell 2).trans (by rw [← q2]; rfl)
  have c3 : W.cell? ⟨w.heap.size, 3, none⟩ = some (.int .i64 x.nxt) := (h2.bx.cell 3).trans (rfl)
  have d3 : W.cell? ⟨w.heap.size + 1, 3, none⟩ = some (.int .i64 x.nxt) := (h2.by_.cell 3).trans (by rw [← q3]; rfl)
  have c4 : W.cell? ⟨w.heap.size, 4, none⟩ = some (.string x.key) := (h2.bx.cell 4).trans (rfl)
  have d4 : W.cell? ⟨w.heap.size + 1, 4, none⟩ = some (.string x.key) := (h2.by_.cell 4).trans (by rw [← q4]; rfl)
  have c5 : W.cell? ⟨w.heap.size, 5, none⟩ = some (.bool x.old.has) := (h2.bx.cell 5).trans (rfl)
  have d5 : W.cell? ⟨w.heap.size + 1, 5, none⟩ = some (.bool x.old.has) := (h2.by_.cell 5).trans (by rw [← q5]; rfl)
  have c6 : W.cell? ⟨w.heap.size, 6, none⟩ = some (.string x.old.data) := (h2.bx.cell 6).trans (rfl)
  have d6 : W.cell? ⟨w.heap.size + 1, 6, none⟩ = some (.string x.old.data) := (h2.by_.cell 6).trans (by rw [← q5]; rfl)
  have c7 : W.cell? ⟨w.heap.size, 7, none⟩ = some (.bool x.new.has) := (h2.bx.cell 7).trans (rfl)
  have d7 : W.cell? ⟨w.heap.size + 1, 7, none⟩ = some (.bool false) := (h2.by_.cell 7).trans (by show some (.bool y.new.has : Value) = _; rw [hz] <;> rfl)
  have c8 : W.cell? ⟨w.heap.size, 8, none⟩ = some (.string x.new.data) := (h2.bx.cell 8).trans (rfl)
  have d8 : W.cell? ⟨w.heap.size + 1, 8, none⟩ = some (.string ⟨#[]⟩) := (h2.by_.cell 8).trans (by show some (.string y.new.data : Value) = _; rw [hz] <;> rfl)
  have H := Lib.hid (h2)
  clear h2 hnm hnl q0 q1 q2 q3 q4 q5 hz
  go_enter Try.func19, Try.ntmps19
  dsimp only [List.append]
  go_wp2_with fail
  go_ret
  exact ⟨rfl, H.out.hb⟩
set_option maxHeartbeats 8000000 in
theorem same07_ne6b (x y : MD) (w : World) (q0 : y.kind = x.kind) (q1 : y.tx = x.tx) (q2 : y.prev = x.prev) (q3 : y.nxt = x.nxt) (q4 : y.key = x.key) (q5 : y.old = x.old) (hz : y.new = V.zero) (hd : x.new.has = false) (hd2 : x.new.data.toList.isEmpty = false) :
    Calls Try.prog 19 #[mVal x, mVal y] w (FalseP w) := by
  obtain ⟨W, hW, h2⟩ := B2.mk' w x y
  obtain ⟨nm, hnm⟩ : ∃ nm, x.mem.length = nm := ⟨_, rfl⟩
  obtain ⟨nl, hnl⟩ : ∃ nl, x.locks.length = nl := ⟨_, rfl⟩
  have c0 : W.cell? ⟨w.heap.size, 0, none⟩ = some (.int .i64 x.kind) := (h2.bx.cell 0).trans (rfl)
  have d0 : W.cell? ⟨w.heap.size + 1, 0, none⟩ = some (.int .i64 x.kind) := (h2.by_.cell 0).trans (by rw [← q0]; rfl)
  have c1 : W.cell? ⟨w.heap.size, 1, none⟩ = some (.int .i64 x.tx) := (h2.bx.cell 1).trans (rfl)
  have d1 : W.cell? ⟨w.heap.size + 1, 1, none⟩ = some (.int .i64 x.tx) := (h2.by_.cell 1).trans (by rw [← q1]; rfl)
  have c2 : W.cell? ⟨w.heap.size, 2, none⟩ = some (.int .i64 x.prev) := (h2.bx.cell 2).trans (rfl)
  have d2 : W.cell? ⟨w.heap.size + 1, 2, none⟩ = some (.int .i64 x.prev) := (h2.by_.cell 2).trans (by rw [← q2]; rfl)
  have c3 : W.cell? ⟨w.heap.size, 3, none⟩ = some (.int .i64 x.nxt) := (h2.bx.cell 3).trans (rfl)
  have d3 : W.cell? ⟨w.heap.size + 1, 3, none⟩ = some (.int .i64 x.nxt) := (h2.by_.cell 3).trans (by rw [← q3]; rfl)
  have c4 : W.cell? ⟨w.heap.size, 4, none⟩ = some (.string x.key) := (h2.bx.cell 4).trans (rfl)
  have d4 : W.cell? ⟨w.heap.size + 1, 4, none⟩ = some (.string x.key) := (h2.by_.cell 4).trans (by rw [← q4]; rfl)
  have c5 : W.cell? ⟨w.heap.size, 5, none⟩ = some (.bool x.old.has) := (h2.bx.cell 5).trans (rfl)
  have d5 : W.cell? ⟨w.heap.size + 1, 5, none⟩ = some (.bool x.old.has) := (h2.by_.cell 5).trans (by rw [← q5]; rfl)
  have c6 : W.cell? ⟨w.heap.size, 6, none⟩ = some (.string x.old.data) := (h2.bx.cell 6).trans (rfl)
  have d6 : W.cell? ⟨w.heap.size + 1, 6, none⟩ = some (.string x.old.data) := (h2.by_.cell 6).trans (by rw [← q5]; rfl)
  have c7 : W.cell? ⟨w.heap.size, 7, none⟩ = some (.bool x.new.has) := (h2.bx.cell 7).trans (rfl)
  have d7 : W.cell? ⟨w.heap.size + 1, 7, none⟩ = some (.bool false) := (h2.by_.cell 7).trans (by show some (.bool y.new.has : Value) = _; rw [hz] <;> rfl)
  have c8 : W.cell? ⟨w.heap.size, 8, none⟩ = some (.string x.new.data) := (h2.bx.cell 8).trans (rfl)
  have d8 : W.cell? ⟨w.heap.size + 1, 8, none⟩ = some (.string ⟨#[]⟩) := (h2.by_.cell 8).trans (by show some (.string y.new.data : Value) = _; rw [hz] <;> rfl)
  have H := Lib.hid (h2)
  clear h2 hnm hnl q0 q1 q2 q3 q4 q5 hz
  go_enter Try.func19, Try.ntmps19
  dsimp only [List.append]
  go_wp2_with fail
  go_ret
  exact ⟨rfl, H.out.hb⟩
set_option maxHeartbeats 8000000 in
theorem same07_ne7 (x y : MD) (w : World) (q0 : y.kind = x.kind) (q1 : y.tx = x.tx) (q2 : y.prev = x.prev) (q3 : y.nxt = x.nxt) (q4 : y.key = x.key) (q5 : y.old = x.old) (q6 : y.new = x.new) (hz : y.coord = 0) (hd : (x.coord == 0) = false) :
    Calls Try.prog 19 #[mVal x, mVal y] w (FalseP w) := by
  obtain ⟨W, hW, h2⟩ := B2.mk' w x y
  obtain ⟨nm, hnm⟩ : ∃ nm, x.mem.length = nm := ⟨_, rfl⟩
  obtain ⟨nl, hnl⟩ : ∃ nl, x.locks.length = nl := ⟨_, rfl⟩
  have c0 : W.cell? ⟨w.heap.size, 0, none⟩ = some (.int .i64 x.kind) := (h2.bx.cell 0).trans (rfl)
  have d0 : W.cell? ⟨w.heap.size + 1, 0, none⟩ = some (.int .i64 x.kind) := (h2.by_.cell 0).trans (by rw [← q0]; rfl)
  have c1 : W.cell? ⟨w.heap.size, 1, none⟩ = some (.int .i64 x.tx) := (h2.bx.cell 1).trans (rfl)
  have d1 : W.cell? ⟨w.heap.size + 1, 1, none⟩ = some (.int .i64 x.tx) := (h2.by_.cell 1).trans (by rw [← q1]; rfl)
  have c2 : W.cell? ⟨w.heap.size, 2, none⟩ = some (.int .i64 x.prev) := (h2.bx.cell 2).trans (rfl)
  have d2 : W.cell? ⟨w.heap.size + 1, 2, none⟩ = some (.int .i64 x.prev) := (h2.by_.cell 2).trans (by rw [← q2]; rfl)
  have c3 : W.cell? ⟨w.heap.size, 3, none⟩ = some (.int .i64 x.nxt) := (h2.bx.cell 3).trans (rfl)
  have d3 : W.cell? ⟨w.heap.size + 1, 3, none⟩ = some (.int .i64 x.nxt) := (h2.by_.cell 3).trans (by rw [← q3]; rfl)
  have c4 : W.cell? ⟨w.heap.size, 4, none⟩ = some (.string x.key) := (h2.bx.cell 4).trans (rfl)
  have d4 : W.cell? ⟨w.heap.size + 1, 4, none⟩ = some (.string x.key) := (h2.by_.cell 4).trans (by rw [← q4]; rfl)
  have c5 : W.cell? ⟨w.heap.size, 5, none⟩ = some (.bool x.old.has) := (h2.bx.cell 5).trans (rfl)
  have d5 : W.cell? ⟨w.heap.size + 1, 5, none⟩ = some (.bool x.old.has) := (h2.by_.cell 5).trans (by rw [← q5]; rfl)
  have c6 : W.cell? ⟨w.heap.size, 6, none⟩ = some (.string x.old.data) := (h2.bx.cell 6).trans (rfl)
  have d6 : W.cell? ⟨w.heap.size + 1, 6, none⟩ = some (.string x.old.data) := (h2.by_.cell 6).trans (by rw [← q5]; rfl)
  have c7 : W.cell? ⟨w.heap.size, 7, none⟩ = some (.bool x.new.has) := (h2.bx.cell 7).trans (rfl)
  have d7 : W.cell? ⟨w.heap.size + 1, 7, none⟩ = some (.bool x.new.has) := (h2.by_.cell 7).trans (by rw [← q6]; rfl)
  have c8 : W.cell? ⟨w.heap.size, 8, none⟩ = some (.string x.new.data) := (h2.bx.cell 8).trans (rfl)
  have d8 : W.cell? ⟨w.heap.size + 1, 8, none⟩ = some (.string x.new.data) := (h2.by_.cell 8).trans (by rw [← q6]; rfl)
  have c9 : W.cell? ⟨w.heap.size, 9, none⟩ = some (.int .i64 x.coord) := (h2.bx.cell 9).trans (rfl)
  have d9 : W.cell? ⟨w.heap.size + 1, 9, none⟩ = some (.int .i64 0) := (h2.by_.cell 9).trans (by show some (.int .i64 y.coord : Value) = _; rw [hz] <;> rfl)
  have H := Lib.hid (h2)
  clear h2 hnm hnl q0 q1 q2 q3 q4 q5 q6 hz
  go_enter Try.func19, Try.ntmps19
  dsimp only [List.append]
  go_wp2_with fail
  go_ret
  exact ⟨rfl, H.out.hb⟩
set_option maxHeartbeats 8000000 in
theorem same07_ne8 (x y : MD) (w : World) (q0 : y.kind = x.kind) (q1 : y.tx = x.tx) (q2 : y.prev = x.prev) (q3 : y.nxt = x.nxt) (q4 : y.key = x.key) (q5 : y.old = x.old) (q6 : y.new = x.new) (q7 : y.coord = x.coord) (hd : x.mem.length ≠ y.mem.length) :
    Calls Try.prog 19 #[mVal x, mVal y] w (FalseP w) := by
  obtain ⟨W, hW, h2⟩ := B2.mk' w x y
  obtain ⟨nm, hnm⟩ : ∃ nm, x.mem.length = nm := ⟨_, rfl⟩
  obtain ⟨nl, hnl⟩ : ∃ nl, x.locks.length = nl := ⟨_, rfl⟩
  have c0 : W.cell? ⟨w.heap.size, 0, none⟩ = some (.int .i64 x.kind) := (h2.bx.cell 0).trans (rfl)
  have d0 : W.cell? ⟨w.heap.size + 1, 0, none⟩ = some (.int .i64 x.kind) := (h2.by_.cell 0).trans (by rw [← q0]; rfl)
  have c1 : W.cell? ⟨w.heap.size, 1, none⟩ = some (.int .i64 x.tx) := (h2.bx.cell 1).trans (rfl)
  have d1 : W.cell? ⟨w.heap.size + 1, 1, none⟩ = some (.int .i64 x.tx) := (h2.by_.cell 1).trans (by rw [← q1]; rfl)
  have c2 : W.cell? ⟨w.heap.size, 2, none⟩ = some (.int .i64 x.prev) := (h2.bx.cell 2).trans (rfl)
  have d2 : W.cell? ⟨w.heap.size + 1, 2, none⟩ = some (.int .i64 x.prev) := (h2.by_.cell 2).trans (by rw [← q2]; rfl)
  have c3 : W.cell? ⟨w.heap.size, 3, none⟩ = some (.int .i64 x.nxt) := (h2.bx.cell 3).trans (rfl)
  have d3 : W.cell? ⟨w.heap.size + 1, 3, none⟩ = some (.int .i64 x.nxt) := (h2.by_.cell 3).trans (by rw [← q3]; rfl)
  have c4 : W.cell? ⟨w.heap.size, 4, none⟩ = some (.string x.key) := (h2.bx.cell 4).trans (rfl)
  have d4 : W.cell? ⟨w.heap.size + 1, 4, none⟩ = some (.string x.key) := (h2.by_.cell 4).trans (by rw [← q4]; rfl)
  have c5 : W.cell? ⟨w.heap.size, 5, none⟩ = some (.bool x.old.has) := (h2.bx.cell 5).trans (rfl)
  have d5 : W.cell? ⟨w.heap.size + 1, 5, none⟩ = some (.bool x.old.has) := (h2.by_.cell 5).trans (by rw [← q5]; rfl)
  have c6 : W.cell? ⟨w.heap.size, 6, none⟩ = some (.string x.old.data) := (h2.bx.cell 6).trans (rfl)
  have d6 : W.cell? ⟨w.heap.size + 1, 6, none⟩ = some (.string x.old.data) := (h2.by_.cell 6).trans (by rw [← q5]; rfl)
  have c7 : W.cell? ⟨w.heap.size, 7, none⟩ = some (.bool x.new.has) := (h2.bx.cell 7).trans (rfl)
  have d7 : W.cell? ⟨w.heap.size + 1, 7, none⟩ = some (.bool x.new.has) := (h2.by_.cell 7).trans (by rw [← q6]; rfl)
  have c8 : W.cell? ⟨w.heap.size, 8, none⟩ = some (.string x.new.data) := (h2.bx.cell 8).trans (rfl)
  have d8 : W.cell? ⟨w.heap.size + 1, 8, none⟩ = some (.string x.new.data) := (h2.by_.cell 8).trans (by rw [← q6]; rfl)
  have c9 : W.cell? ⟨w.heap.size, 9, none⟩ = some (.int .i64 x.coord) := (h2.bx.cell 9).trans (rfl)
  have d9 : W.cell? ⟨w.heap.size + 1, 9, none⟩ = some (.int .i64 x.coord) := (h2.by_.cell 9).trans (by rw [← q7]; rfl)
  have c10 : W.cell? ⟨w.heap.size, 10, none⟩ = some (.slice x.mA nm x.mc) := (h2.bx.cell 10).trans (by rw [← hnm]; rfl)
  obtain ⟨m, hm⟩ : ∃ m, y.mem.length = m := ⟨_, rfl⟩
  rw [hnm, hm] at hd
  have d10 : W.cell? ⟨w.heap.size + 1, 10, none⟩ = some (.slice y.mA m y.mc) := (h2.by_.cell 10).trans (by rw [← hm]; rfl)
  have H := Lib.hid (And.intro h2 (hd))
  clear h2 hd hnm hnl q0 q1 q2 q3 q4 q5 q6 q7 hm
  go_enter Try.func19, Try.ntmps19
  dsimp only [List.append]
  go_wp2_with fail
  refine (sameInts_ne x.mA y.mA nm m x.mc y.mc _ H.out.2).mono ?_
  rintro e w1 ⟨rfl, hb1⟩
  have H1 := Lib.hid hb1
  clear hb1
  go_wp2_with fail
  go_ret
  exact ⟨rfl, H.out.1.hb.trans (H1.out.mono H.out.1.hb.size)⟩
set_option maxHeartbeats 8000000 in
theorem same07_ne9 (x y : MD) (w : World) (hx : MOk w x) (hy : MOk w y) (hs : Small x) (q0 : y.kind = x.kind) (q1 : y.tx = x.tx) (q2 : y.prev = x.prev) (q3 : y.nxt = x.nxt) (q4 : y.key = x.key) (q5 : y.old = x.old) (q6 : y.new = x.new) (q7 : y.coord = x.coord) (q8 : y.mem = x.mem) (hd : x.locks.length ≠ y.locks.length) :
    Calls Try.prog 19 #[mVal x, mVal y] w (FalseP w) := by
  obtain ⟨W, hW, h2⟩ := B2.mk' w x y
  obtain ⟨nm, hnm⟩ : ∃ nm, x.mem.length = nm := ⟨_, rfl⟩
  obtain ⟨nl, hnl⟩ : ∃ nl, x.locks.length = nl := ⟨_, rfl⟩
  have c0 : W.cell? ⟨w.heap.size, 0, none⟩ = some (.int .i64 x.kind) := (h2.bx.cell 0).trans (rfl)
  have d0 : W.cell? ⟨w.heap.size + 1, 0, none⟩ = some (.int .i64 x.kind) := (h2.by_.cell 0).trans (by rw [← q0]; rfl)
  have c1 : W.cell? ⟨w.heap.size, 1, none⟩ = some (.int .i64 x.tx) := (h2.bx.cell 1).trans (rfl)
  have d1 : W.cell? ⟨w.heap.size + 1, 1, none⟩ = some (.int .i64 x.tx) := (h2.by_.cell 1).trans (by rw [← q1]; rfl)
  have c2 : W.cell? ⟨w.heap.size, 2, none⟩ = some (.int .i64 x.prev) := (h2.bx.cell 2).trans (rfl)
  have d2 : W.cell? ⟨w.heap.size + 1, 2, none⟩ = some (.int .i64 x.prev) := (h2.by_.cell 2).trans (by rw [← q2]; rfl)
  have c3 : W.cell? ⟨w.heap.size, 3, none⟩ = some (.int .i64 x.nxt) := (h2.bx.cell 3).trans (rfl)
  have d3 : W.cell? ⟨w.heap.size + 1, 3, none⟩ = some (.int .i64 x.nxt) := (h2.by_.cell 3).trans (by rw [← q3]; rfl)
  have c4 : W.cell? ⟨w.heap.size, 4, none⟩ = some (.string x.key) := (h2.bx.cell 4).trans (rfl)
  have d4 : W.cell? ⟨w.heap.size + 1, 4, none⟩ = some (.string x.key) := (h2.by_.cell 4).trans (by rw [← q4]; rfl)
  have c5 : W.cell? ⟨w.heap.size, 5, none⟩ = some (.bool x.old.has) := (h2.bx.cell 5).trans (rfl)
  have d5 : W.cell? ⟨w.heap.size + 1, 5, none⟩ = some (.bool x.old.has) := (h2.by_.cell 5).trans (by rw [← q5]; rfl)
  have c6 : W.cell? ⟨w.heap.size, 6, none⟩ = some (.string x.old.data) := (h2.bx.cell 6).trans (rfl)
  have d6 : W.cell? ⟨w.heap.size + 1, 6, none⟩ = some (.string x.old.data) := (h2.by_.cell 6).trans (by rw [← q5]; rfl)
  have c7 : W.cell? ⟨w.heap.size, 7, none⟩ = some (.bool x.new.has) := (h2.bx.cell 7).trans (rfl)
  have d7 : W.cell? ⟨w.heap.size + 1, 7, none⟩ = some (.bool x.new.has) := (h2.by_.cell 7).trans (by rw [← q6]; rfl)
  have c8 : W.cell? ⟨w.heap.size, 8, none⟩ = some (.string x.new.data) := (h2.bx.cell 8).trans (rfl)
  have d8 : W.cell? ⟨w.heap.size + 1, 8, none⟩ = some (.string x.new.data) := (h2.by_.cell 8).trans (by rw [← q6]; rfl)
  have c9 : W.cell? ⟨w.heap.size, 9, none⟩ = some (.int .i64 x.coord) := (h2.bx.cell 9).trans (rfl)
  have d9 : W.cell? ⟨w.heap.size + 1, 9, none⟩ = some (.int .i64 x.coord) := (h2.by_.cell 9).trans (by rw [← q7]; rfl)
  have c10 : W.cell? ⟨w.heap.size, 10, none⟩ = some (.slice x.mA nm x.mc) := (h2.bx.cell 10).trans (by rw [← hnm]; rfl)
  have d10 : W.cell? ⟨w.heap.size + 1, 10, none⟩ = some (.slice y.mA nm y.mc) := (h2.by_.cell 10).trans (by rw [← hnm, ← q8]; rfl)
  have c11 : W.cell? ⟨w.heap.size, 11, none⟩ = some (.slice x.lA nl x.lc) := (h2.bx.cell 11).trans (by rw [← hnl]; rfl)
  obtain ⟨m, hm⟩ : ∃ m, y.locks.length = m := ⟨_, rfl⟩
  rw [hnl, hm] at hd
  have d11 : W.cell? ⟨w.heap.size + 1, 11, none⟩ = some (.slice y.lA m y.lc) := (h2.by_.cell 11).trans (by rw [← hm]; rfl)
  have hm1 : IS W x.mA nm x.mem := by have g := (hx.below h2.hb).mem; rw [hnm] at g; exact g
  have hm2 : IS W y.mA nm x.mem := by have g := (hy.below h2.hb).mem; rw [q8, hnm] at g; exact g
  have hsm : nm ≤ 1000000 := by rw [← hnm]; exact hs.mem
  have H := Lib.hid (And.intro h2 (And.intro hd (And.intro hm1 (And.intro hm2 (hsm)))))
  clear h2 hd hm1 hm2 hsm hnm hnl q0 q1 q2 q3 q4 q5 q6 q7 q8 hx hy hs hm
  go_enter Try.func19, Try.ntmps19
  dsimp only [List.append]
  go_wp2_with fail
  refine (sameInts_eq x.mA y.mA nm x.mc y.mc x.mem _ H.out.2.2.1 H.out.2.2.2.1 H.out.2.2.2.2).mono ?_
  rintro e w1 ⟨rfl, hb1⟩
  have e0 := cell_below hb1 c11
  have e1 := cell_below hb1 d11
  have H1 := Lib.hid hb1
  clear hb1 c0 d0 c1 d1 c2 d2 c3 d3 c4 d4 c5 d5 c6 d6 c7 d7 c8 d8 c9 d9 c10 d10 c11 d11
  go_wp2_with fail
  refine (sameLocks_ne x.lA y.lA nl m x.lc y.lc _ H.out.2.1).mono ?_
  rintro e w2 ⟨rfl, hb2⟩
  have H2 := Lib.hid (H1.out.trans (hb2.mono H1.out.size))
  clear hb2 e0 e1
  go_wp2_with fail
  go_ret
  exact ⟨rfl, H.out.1.hb.trans (H2.out.mono H.out.1.hb.size)⟩
set_option maxHeartbeats 8000000 in
theorem same07_ne10 (x y : MD) (w : World) (hx : MOk w x) (hy : MOk w y) (hs : Small x) (q0 : y.kind = x.kind) (q1 : y.tx = x.tx) (q2 : y.prev = x.prev) (q3 : y.nxt = x.nxt) (q4 : y.key = x.key) (q5 : y.old = x.old) (q6 : y.new = x.new) (q7 : y.coord = x.coord) (q8 : y.mem = x.mem) (q9 : y.locks = x.locks) (hd : ∀ W, Calls Try.prog 57 #[mVal x, mVal y] W (FalseP W)) :
    Calls Try.prog 19 #[mVal x, mVal y] w (FalseP w) := by
  obtain ⟨W, hW, h2⟩ := B2.mk' w x y
  obtain ⟨nm, hnm⟩ : ∃ nm, x.mem.length = nm := ⟨_, rfl⟩
  obtain ⟨nl, hnl⟩ : ∃ nl, x.locks.length = nl := ⟨_, rfl⟩
  have c0 : W.cell? ⟨w.heap.size, 0, none⟩ = some (.int .i64 x.kind) := (h2.bx.cell 0).trans (rfl)
  have d0 : W.cell? ⟨w.heap.size + 1, 0, none⟩ = some (.int .i64 x.kind) := (h2.by_.cell 0).trans (by rw [← q0]; rfl)
  have c1 : W.cell? ⟨w.heap.size, 1, none⟩ = some (.int .i64 x.tx) := (h2.bx.cell 1).trans (rfl)
  have d1 : W.cell? ⟨w.heap.size + 1, 1, none⟩ = some (.int .i64 x.tx) := (h2.by_.cell 1).trans (by rw [← q1]; rfl)
  have c2 : W.cell? ⟨w.heap.size, 2, none⟩ = some (.int .i64 x.prev) := (h2.bx.cell 2).trans (rfl)
  have d2 : W.cell? ⟨w.heap.size + 1, 2, none⟩ = some (.int .i64 x.prev) := (h2.by_.cell 2).trans (by rw [← q2]; rfl)
  have c3 : W.cell? ⟨w.heap.size, 3, none⟩ = some (.int .i64 x.nxt) := (h2.bx.cell 3).trans (rfl)
  have d3 : W.cell? ⟨w.heap.size + 1, 3, none⟩ = some (.int .i64 x.nxt) := (h2.by_.cell 3).trans (by rw [← q3]; rfl)
  have c4 : W.cell? ⟨w.heap.size, 4, none⟩ = some (.string x.key) := (h2.bx.cell 4).trans (rfl)
  have d4 : W.cell? ⟨w.heap.size + 1, 4, none⟩ = some (.string x.key) := (h2.by_.cell 4).trans (by rw [← q4]; rfl)
  have c5 : W.cell? ⟨w.heap.size, 5, none⟩ = some (.bool x.old.has) := (h2.bx.cell 5).trans (rfl)
  have d5 : W.cell? ⟨w.heap.size + 1, 5, none⟩ = some (.bool x.old.has) := (h2.by_.cell 5).trans (by rw [← q5]; rfl)
  have c6 : W.cell? ⟨w.heap.size, 6, none⟩ = some (.string x.old.data) := (h2.bx.cell 6).trans (rfl)
  have d6 : W.cell? ⟨w.heap.size + 1, 6, none⟩ = some (.string x.old.data) := (h2.by_.cell 6).trans (by rw [← q5]; rfl)
  have c7 : W.cell? ⟨w.heap.size, 7, none⟩ = some (.bool x.new.has) := (h2.bx.cell 7).trans (rfl)
  have d7 : W.cell? ⟨w.heap.size + 1, 7, none⟩ = some (.bool x.new.has) := (h2.by_.cell 7).trans (by rw [← q6]; rfl)
  have c8 : W.cell? ⟨w.heap.size, 8, none⟩ = some (.string x.new.data) := (h2.bx.cell 8).trans (rfl)
  have d8 : W.cell? ⟨w.heap.size + 1, 8, none⟩ = some (.string x.new.data) := (h2.by_.cell 8).trans (by rw [← q6]; rfl)
  have c9 : W.cell? ⟨w.heap.size, 9, none⟩ = some (.int .i64 x.coord) := (h2.bx.cell 9).trans (rfl)
  have d9 : W.cell? ⟨w.heap.size + 1, 9, none⟩ = some (.int .i64 x.coord) := (h2.by_.cell 9).trans (by rw [← q7]; rfl)
  have c10 : W.cell? ⟨w.heap.size, 10, none⟩ = some (.slice x.mA nm x.mc) := (h2.bx.cell 10).trans (by rw [← hnm]; rfl)
  have d10 : W.cell? ⟨w.heap.size + 1, 10, none⟩ = some (.slice y.mA nm y.mc) := (h2.by_.cell 10).trans (by rw [← hnm, ← q8]; rfl)
  have c11 : W.cell? ⟨w.heap.size, 11, none⟩ = some (.slice x.lA nl x.lc) := (h2.bx.cell 11).trans (by rw [← hnl]; rfl)
  have d11 : W.cell? ⟨w.heap.size + 1, 11, none⟩ = some (.slice y.lA nl y.lc) := (h2.by_.cell 11).trans (by rw [← hnl, ← q9]; rfl)
  have hm1 : IS W x.mA nm x.mem := by have g := (hx.below h2.hb).mem; rw [hnm] at g; exact g
  have hm2 : IS W y.mA nm x.mem := by have g := (hy.below h2.hb).mem; rw [q8, hnm] at g; exact g
  have hsm : nm ≤ 1000000 := by rw [← hnm]; exact hs.mem
  have hl1 : ST lockK W x.lA nl x.locks := by have g := (hx.below h2.hb).locks; rw [hnl] at g; exact g
  have hl2 : ST lockK W y.lA nl x.locks := by have g := (hy.below h2.hb).locks; rw [q9, hnl] at g; exact g
  have hsl : nl ≤ 1000000 := by rw [← hnl]; exact hs.locks
  have H := Lib.hid (And.intro h2 (And.intro hd (And.intro hm1 (And.intro hm2 (And.intro hsm (And.intro hl1 (And.intro hl2 (hsl))))))))
  clear h2 hd hm1 hm2 hsm hl1 hl2 hsl hnm hnl q0 q1 q2 q3 q4 q5 q6 q7 q8 q9 hx hy hs
  go_enter Try.func19, Try.ntmps19
  dsimp only [List.append]
  go_wp2_with fail
  refine (sameInts_eq x.mA y.mA nm x.mc y.mc x.mem _ H.out.2.2.1 H.out.2.2.2.1 H.out.2.2.2.2.1).mono ?_
  rintro e w1 ⟨rfl, hb1⟩
  have e0 := cell_below hb1 c11
  have e1 := cell_below hb1 d11
  have H1 := Lib.hid hb1
  clear hb1 c0 d0 c1 d1 c2 d2 c3 d3 c4 d4 c5 d5 c6 d6 c7 d7 c8 d8 c9 d9 c10 d10 c11 d11
  go_wp2_with fail
  refine (sameLocks_eq x.lA y.lA nl x.lc y.lc x.locks _ (H.out.2.2.2.2.2.1.below H1.out) (H.out.2.2.2.2.2.2.1.below H1.out) H.out.2.2.2.2.2.2.2).mono ?_
  rintro e w2 ⟨rfl, hb2⟩
  have H2 := Lib.hid (H1.out.trans (hb2.mono H1.out.size))
  clear hb2 e0 e1
  have hbx := H.out.1.bx.below H2.out H.out.1.bx.lt
  have hby := H.out.1.by_.below H2.out H.out.1.by_.lt
  go_wp2_with (first | (refine wpList_load_rec' _ (by rfl) (by rfl) (by rfl) hbx ?_) | (refine wpList_load_rec' _ (by rfl) (by rfl) (by rfl) hby ?_))
  refine (H.out.2.1 _).mono ?_
  rintro e w3 ⟨rfl, hb3⟩
  have H3 := Lib.hid (H2.out.trans (hb3.mono H2.out.size))
  clear hb3 hbx hby
  go_wp2_with fail
  go_ret
  exact ⟨rfl, H.out.1.hb.trans (H3.out.mono H.out.1.hb.size)⟩
end Go.Proofs.Ytlijfnekopjogaa

/- The fields of a record's kind, and no others: the document's only (printed by gen_only.py). -/
namespace Go.Proofs.Ytlijfnekopjogaa
open Go Go.RowKit Mem Rc
set_option maxRecDepth 100000
set_option linter.unusedVariables false
set_option linter.unusedSimpArgs false

structure OnS (w : World) (x : MD) (v : World) (y : MD) : Prop where
  hb : Below w.heap.size w v
  bx : Blk v w.heap.size 30 (mCells x)
  br : Blk v (w.heap.size + 1) 30 (mCells (MD.k0 0))
  bo : Blk v (w.heap.size + 2) 30 (mCells y)
theorem OnS.put {w v : World} {x y y' : MD} (h : OnS w x v y) (i : Nat) (val : Value) (hy : (mCells y).setIfInBounds i val = mCells y') : OnS w x (v.setCell ⟨w.heap.size + 2, i, none⟩ val) y' := by
  have hf : Fr (fun k => k = w.heap.size + 2) v (v.setCell ⟨w.heap.size + 2, i, none⟩ val) := (Fr.refl _ _).setCell _ _ (fun _ => rfl)
  refine ⟨h.hb.trans (hf.below h.hb.size (fun j hj => by have e : j = w.heap.size + 2 := hj; omega)), h.bx.keep (hf.block _ h.bx.lt (fun e => by have e : w.heap.size = w.heap.size + 2 := e; omega)), h.br.keep (hf.block _ h.br.lt (fun e => by have e : w.heap.size + 1 = w.heap.size + 2 := e; omega)), ?_⟩
  rw [← hy]
  exact h.bo.put i val
theorem on0 (w : World) (x : MD) : ∃ W, (w.alloc (.cells (mCells x) 30)).alloc (.cells #[.int .i64 0, .int .i64 0, .int .i64 0, .int .i64 0, .string ⟨#[]⟩, .bool false, .string ⟨#[]⟩, .bool false, .string ⟨#[]⟩, .int .i64 0, .slice none 0 0, .slice none 0 0, .slice none 0 0, .slice none 0 0, .slice none 0 0, .slice none 0 0] 30) = W ∧ W.heap.size = w.heap.size + 2 ∧ Below w.heap.size w W ∧ Blk W w.heap.size 30 (mCells x) ∧ Blk W (w.heap.size + 1) 30 (mCells (MD.k0 0)) := by
  refine ⟨_, rfl, by simp, ((Below.refl _ _).alloc (Nat.le_refl _) _).alloc (by simp) _, (Blk.new _ _ _).alloc _, ?_⟩
  have := Blk.new (w.alloc (.cells (mCells x) 30)) 30 (mCells (MD.k0 0))
  rwa [show (w.alloc (.cells (mCells x) 30)).heap.size = w.heap.size + 1 by simp] at this
theorem only_results {W : World} {g : Nat} {x : MD} {tmps : Array Value} (hb : Blk W g 30 (mCells x)) (h2 : tmps.getD 2 undef = .pointer (some ⟨g, 0, none⟩)) :
    (results Try.f36 tmps).run Try.prog W = .ok (mVal x) W := by
  have hl := rec_loadVar hb
  generalize mVal x = X at *
  simp only [Array.getD_eq_getD_getElem?] at h2
  simp [results, Try.results36, h2, asAddr, hl]
def only1 (x : MD) : MD := ({ MD.k0 1 with tx := x.tx, prev := x.prev, key := x.key, old := x.old, new := x.new } : MD)
def only2 (x : MD) : MD := ({ MD.k0 2 with tx := x.tx, prev := x.prev, nxt := x.nxt, key := x.key, new := x.new } : MD)
def only3 (x : MD) : MD := ({ MD.k0 3 with tx := x.tx, prev := x.prev, coord := x.coord, mem := x.mem, mA := x.mA, mc := x.mc, locks := x.locks, lA := x.lA, lc := x.lc } : MD)
def only4 (x : MD) : MD := ({ MD.k0 4 with tx := x.tx, prev := x.prev } : MD)
def only5 (x : MD) : MD := ({ MD.k0 5 with tx := x.tx, prev := x.prev } : MD)
def only6 (x : MD) : MD := ({ MD.k0 6 with tx := x.tx, prev := x.prev } : MD)
def only7 (x : MD) : MD := MD.k0 7
def only8 (x : MD) : MD := ({ MD.k0 8 with rows := x.rows, rA := x.rA, rc := x.rc, dirty := x.dirty, dA := x.dA, dc := x.dc, deeds := x.deeds, eA := x.eA, ec := x.ec, past := x.past, pA := x.pA, pc := x.pc } : MD)
def only9 (x : MD) : MD := ({ MD.k0 9 with tx := x.tx, mem := x.mem, mA := x.mA, mc := x.mc } : MD)
def only10 (x : MD) : MD := ({ MD.k0 10 with tx := x.tx } : MD)
set_option maxHeartbeats 8000000 in
theorem fonly1 (x : MD) (w : World) (hk : x.kind = 1) : Calls Try.prog 36 #[mVal x] w fun e w' => e = .returned (mVal (only1 x)) ∧ Below w.heap.size w w' := by
  obtain ⟨W, hW, hsz, hb, hx, hz⟩ := on0 w x
  have c0 : W.cell? ⟨w.heap.size, 0, none⟩ = some (.int .i64 1) := (hx.cell 0).trans (by show some (Value.int .i64 x.kind) = _; rw [hk])
  have hBz : Blk (W.alloc (.cells #[.int .i64 0, .int .i64 0, .int .i64 0, .int .i64 0, .string ⟨#[]⟩, .bool false, .string ⟨#[]⟩, .bool false, .string ⟨#[]⟩, .int .i64 0, .slice none 0 0, .slice none 0 0, .slice none 0 0, .slice none 0 0, .slice none 0 0, .slice none 0 0] 30)) W.heap.size 30 (mCells (MD.k0 0)) := Blk.new _ _ _
  have H := Lib.hid (And.intro hb (And.intro hx (And.intro hz (And.intro hsz hk))))
  clear hb hx hz hsz hk
  go_enter Try.func36, Try.ntmps36
  go_upto_region 2 with (refine wpList_store_rec (MD.k0 1) (by rfl) _ _ (by rfl) (by rfl) (by rfl) hBz (by rfl) ?_; intro v0 hB0 hF0 hS0)
  have hb0 : Below W.heap.size W v0 := ((Below.refl _ W).alloc (Nat.le_refl _) _).trans (hF0.below (by simp) (fun j hj => by have e : j = W.heap.size := hj; omega))
  rw [H.out.2.2.2.1] at hB0
  have hS0 : OnS w x v0 (MD.k0 1) := ⟨H.out.1.trans (hb0.mono (by have := H.out.2.2.2.1; omega)), H.out.2.1.below hb0 H.out.2.1.lt, H.out.2.2.1.below hb0 H.out.2.2.1.lt, hB0⟩
  have k0 : v0.cell? ⟨w.heap.size, 0, none⟩ = some (.int .i64 1) := cell_below hb0 c0
  have hsw := H.out.2.2.2.1
  clear hB0 hF0 hBz hb0 c0 hW
  have a0 : v0.cell? ⟨w.heap.size, 1, none⟩ = some (.int .i64 x.tx) := hS0.bx.cell 1
  have f0 := hS0.bo.free 1
  obtain ⟨z0, hz0⟩ : ∃ u, v0.cell? ⟨w.heap.size + 2, 1, none⟩ = some u := ⟨_, hS0.bo.cell 1⟩
  obtain ⟨v1, hv1⟩ : ∃ v, v0.setCell ⟨w.heap.size + 2, 1, none⟩ (.int .i64 x.tx) = v := ⟨_, rfl⟩
  have hS1 : OnS w x v1 { MD.k0 1 with tx := x.tx } := by rw [← hv1]; exact hS0.put 1 _ rfl
  have a1 : v1.cell? ⟨w.heap.size, 2, none⟩ = some (.int .i64 x.prev) := hS1.bx.cell 2
  have f1 := hS1.bo.free 2
  obtain ⟨z1, hz1⟩ : ∃ u, v1.cell? ⟨w.heap.size + 2, 2, none⟩ = some u := ⟨_, hS1.bo.cell 2⟩
  obtain ⟨v2, hv2⟩ : ∃ v, v1.setCell ⟨w.heap.size + 2, 2, none⟩ (.int .i64 x.prev) = v := ⟨_, rfl⟩
  have hS2 : OnS w x v2 { MD.k0 1 with tx := x.tx, prev := x.prev } := by rw [← hv2]; exact hS1.put 2 _ rfl
  have a2 : v2.cell? ⟨w.heap.size, 4, none⟩ = some (.string x.key) := hS2.bx.cell 4
  have f2 := hS2.bo.free 4
  obtain ⟨z2, hz2⟩ : ∃ u, v2.cell? ⟨w.heap.size + 2, 4, none⟩ = some u := ⟨_, hS2.bo.cell 4⟩
  obtain ⟨v3, hv3⟩ : ∃ v, v2.setCell ⟨w.heap.size + 2, 4, none⟩ (.string x.key) = v := ⟨_, rfl⟩
  have hS3 : OnS w x v3 { MD.k0 1 with tx := x.tx, prev := x.prev, key := x.key } := by rw [← hv3]; exact hS2.put 4 _ rfl
  have a3 : v3.cell? ⟨w.heap.size, 5, none⟩ = some (.bool x.old.has) := hS3.bx.cell 5
  have f3 := hS3.bo.free 5
  obtain ⟨z3, hz3⟩ : ∃ u, v3.cell? ⟨w.heap.size + 2, 5, none⟩ = some u := ⟨_, hS3.bo.cell 5⟩
  have a3b : v3.cell? ⟨w.heap.size, 6, none⟩ = some (.string x.old.data) := hS3.bx.cell 6
  have f3b := hS3.bo.free 6
  obtain ⟨z3b, hz3b⟩ : ∃ u, v3.cell? ⟨w.heap.size + 2, 6, none⟩ = some u := ⟨_, hS3.bo.cell 6⟩
  obtain ⟨v4, hv4⟩ : ∃ v, v3.setCell ⟨w.heap.size + 2, 5, none⟩ (.bool x.old.has) = v := ⟨_, rfl⟩
  have hS4 : OnS w x v4 { MD.k0 1 with tx := x.tx, prev := x.prev, key := x.key, old := ⟨x.old.has, ⟨#[]⟩⟩ } := by rw [← hv4]; exact hS3.put 5 _ rfl
  have a4 : v4.cell? ⟨w.heap.size, 6, none⟩ = some (.string x.old.data) := hS4.bx.cell 6
  have f4 := hS4.bo.free 6
  obtain ⟨z4, hz4⟩ : ∃ u, v4.cell? ⟨w.heap.size + 2, 6, none⟩ = some u := ⟨_, hS4.bo.cell 6⟩
  obtain ⟨v5, hv5⟩ : ∃ v, v4.setCell ⟨w.heap.size + 2, 6, none⟩ (.string x.old.data) = v := ⟨_, rfl⟩
  have hS5 : OnS w x v5 { MD.k0 1 with tx := x.tx, prev := x.prev, key := x.key, old := x.old } := by rw [← hv5]; exact hS4.put 6 _ rfl
  have a5 : v5.cell? ⟨w.heap.size, 7, none⟩ = some (.bool x.new.has) := hS5.bx.cell 7
  have f5 := hS5.bo.free 7
  obtain ⟨z5, hz5⟩ : ∃ u, v5.cell? ⟨w.heap.size + 2, 7, none⟩ = some u := ⟨_, hS5.bo.cell 7⟩
  have a5b : v5.cell? ⟨w.heap.size, 8, none⟩ = some (.string x.new.data) := hS5.bx.cell 8
  have f5b := hS5.bo.free 8
  obtain ⟨z5b, hz5b⟩ : ∃ u, v5.cell? ⟨w.heap.size + 2, 8, none⟩ = some u := ⟨_, hS5.bo.cell 8⟩
  obtain ⟨v6, hv6⟩ : ∃ v, v5.setCell ⟨w.heap.size + 2, 7, none⟩ (.bool x.new.has) = v := ⟨_, rfl⟩
  have hS6 : OnS w x v6 { MD.k0 1 with tx := x.tx, prev := x.prev, key := x.key, old := x.old, new := ⟨x.new.has, ⟨#[]⟩⟩ } := by rw [← hv6]; exact hS5.put 7 _ rfl
  have a6 : v6.cell? ⟨w.heap.size, 8, none⟩ = some (.string x.new.data) := hS6.bx.cell 8
  have f6 := hS6.bo.free 8
  obtain ⟨z6, hz6⟩ : ∃ u, v6.cell? ⟨w.heap.size + 2, 8, none⟩ = some u := ⟨_, hS6.bo.cell 8⟩
  obtain ⟨v7, hv7⟩ : ∃ v, v6.setCell ⟨w.heap.size + 2, 8, none⟩ (.string x.new.data) = v := ⟨_, rfl⟩
  have hS7 : OnS w x v7 { MD.k0 1 with tx := x.tx, prev := x.prev, key := x.key, old := x.old, new := x.new } := by rw [← hv7]; exact hS6.put 8 _ rfl
  have HS := Lib.hid hS7
  have hbo := HS.out.bo
  have hbr := HS.out.br
  clear hS0 hS1 hS2 hS3 hS4 hS5 hS6 hS7
  go_wp2_with (first | (refine wpList_load_rec' _ (by rfl) (by rfl) (by rfl) hbo ?_) | (refine wpList_store_rec (only1 x) (by rfl) _ _ (by rfl) (by rfl) (by rfl) hbr (by rfl) ?_; intro v9 hB9 hF9 hS9; have H9 := Lib.hid (And.intro hB9 (And.intro hF9 hS9)); clear hB9 hF9 hS9))
  refine bodyPost_ret (only_results H9.out.1 rfl) rfl ⟨rfl, HS.out.hb.trans (H9.out.2.1.below HS.out.hb.size (fun j hj => by have e : j = w.heap.size + 1 := hj; omega))⟩
set_option maxHeartbeats 8000000 in
theorem fonly2 (x : MD) (w : World) (hk : x.kind = 2) : Calls Try.prog 36 #[mVal x] w fun e w' => e = .returned (mVal (only2 x)) ∧ Below w.heap.size w w' := by
  obtain ⟨W, hW, hsz, hb, hx, hz⟩ := on0 w x
  have c0 : W.cell? ⟨w.heap.size, 0, none⟩ = some (.int .i64 2) := (hx.cell 0).trans (by show some (Value.int .i64 x.kind) = _; rw [hk])
  have hBz : Blk (W.alloc (.cells #[.int .i64 0, .int .i64 0, .int .i64 0, .int .i64 0, .string ⟨#[]⟩, .bool false, .string ⟨#[]⟩, .bool false, .string ⟨#[]⟩, .int .i64 0, .slice none 0 0, .slice none 0 0, .slice none 0 0, .slice none 0 0, .slice none 0 0, .slice none 0 0] 30)) W.heap.size 30 (mCells (MD.k0 0)) := Blk.new _ _ _
  have H := Lib.hid (And.intro hb (And.intro hx (And.intro hz (And.intro hsz hk))))
  clear hb hx hz hsz hk
  go_enter Try.func36, Try.ntmps36
  go_upto_region 2 with (refine wpList_store_rec (MD.k0 2) (by rfl) _ _ (by rfl) (by rfl) (by rfl) hBz (by rfl) ?_; intro v0 hB0 hF0 hS0)
  have hb0 : Below W.heap.size W v0 := ((Below.refl _ W).alloc (Nat.le_refl _) _).trans (hF0.below (by simp) (fun j hj => by have e : j = W.heap.size := hj; omega))
  rw [H.out.2.2.2.1] at hB0
  have hS0 : OnS w x v0 (MD.k0 2) := ⟨H.out.1.trans (hb0.mono (by have := H.out.2.2.2.1; omega)), H.out.2.1.below hb0 H.out.2.1.lt, H.out.2.2.1.below hb0 H.out.2.2.1.lt, hB0⟩
  have k0 : v0.cell? ⟨w.heap.size, 0, none⟩ = some (.int .i64 2) := cell_below hb0 c0
  have hsw := H.out.2.2.2.1
  clear hB0 hF0 hBz hb0 c0 hW
  have a0 : v0.cell? ⟨w.heap.size, 1, none⟩ = some (.int .i64 x.tx) := hS0.bx.cell 1
  have f0 := hS0.bo.free 1
  obtain ⟨z0, hz0⟩ : ∃ u, v0.cell? ⟨w.heap.size + 2, 1, none⟩ = some u := ⟨_, hS0.bo.cell 1⟩
  obtain ⟨v1, hv1⟩ : ∃ v, v0.setCell ⟨w.heap.size + 2, 1, none⟩ (.int .i64 x.tx) = v := ⟨_, rfl⟩
  have hS1 : OnS w x v1 { MD.k0 2 with tx := x.tx } := by rw [← hv1]; exact hS0.put 1 _ rfl
  have a1 : v1.cell? ⟨w.heap.size, 2, none⟩ = some (.int .i64 x.prev) := hS1.bx.cell 2
  have f1 := hS1.bo.free 2
  obtain ⟨z1, hz1⟩ : ∃ u, v1.cell? ⟨w.heap.size + 2, 2, none⟩ = some u := ⟨_, hS1.bo.cell 2⟩
  obtain ⟨v2, hv2⟩ : ∃ v, v1.setCell ⟨w.heap.size + 2, 2, none⟩ (.int .i64 x.prev) = v := ⟨_, rfl⟩
  have hS2 : OnS w x v2 { MD.k0 2 with tx := x.tx, prev := x.prev } := by rw [← hv2]; exact hS1.put 2 _ rfl
  have a2 : v2.cell? ⟨w.heap.size, 3, none⟩ = some (.int .i64 x.nxt) := hS2.bx.cell 3
  have f2 := hS2.bo.free 3
  obtain ⟨z2, hz2⟩ : ∃ u, v2.cell? ⟨w.heap.size + 2, 3, none⟩ = some u := ⟨_, hS2.bo.cell 3⟩
  obtain ⟨v3, hv3⟩ : ∃ v, v2.setCell ⟨w.heap.size + 2, 3, none⟩ (.int .i64 x.nxt) = v := ⟨_, rfl⟩
  have hS3 : OnS w x v3 { MD.k0 2 with tx := x.tx, prev := x.prev, nxt := x.nxt } := by rw [← hv3]; exact hS2.put 3 _ rfl
  have a3 : v3.cell? ⟨w.heap.size, 4, none⟩ = some (.string x.key) := hS3.bx.cell 4
  have f3 := hS3.bo.free 4
  obtain ⟨z3, hz3⟩ : ∃ u, v3.cell? ⟨w.heap.size + 2, 4, none⟩ = some u := ⟨_, hS3.bo.cell 4⟩
  obtain ⟨v4, hv4⟩ : ∃ v, v3.setCell ⟨w.heap.size + 2, 4, none⟩ (.string x.key) = v := ⟨_, rfl⟩
  have hS4 : OnS w x v4 { MD.k0 2 with tx := x.tx, prev := x.prev, nxt := x.nxt, key := x.key } := by rw [← hv4]; exact hS3.put 4 _ rfl
  have a4 : v4.cell? ⟨w.heap.size, 7, none⟩ = some (.bool x.new.has) := hS4.bx.cell 7
  have f4 := hS4.bo.free 7
  obtain ⟨z4, hz4⟩ : ∃ u, v4.cell? ⟨w.heap.size + 2, 7, none⟩ = some u := ⟨_, hS4.bo.cell 7⟩
  have a4b : v4.cell? ⟨w.heap.size, 8, none⟩ = some (.string x.new.data) := hS4.bx.cell 8
  have f4b := hS4.bo.free 8
  obtain ⟨z4b, hz4b⟩ : ∃ u, v4.cell? ⟨w.heap.size + 2, 8, none⟩ = some u := ⟨_, hS4.bo.cell 8⟩
  obtain ⟨v5, hv5⟩ : ∃ v, v4.setCell ⟨w.heap.size + 2, 7, none⟩ (.bool x.new.has) = v := ⟨_, rfl⟩
  have hS5 : OnS w x v5 { MD.k0 2 with tx := x.tx, prev := x.prev, nxt := x.nxt, key := x.key, new := ⟨x.new.has, ⟨#[]⟩⟩ } := by rw [← hv5]; exact hS4.put 7 _ rfl
  have a5 : v5.cell? ⟨w.heap.size, 8, none⟩ = some (.string x.new.data) := hS5.bx.cell 8
  have f5 := hS5.bo.free 8
  obtain ⟨z5, hz5⟩ : ∃ u, v5.cell? ⟨w.heap.size + 2, 8, none⟩ = some u := ⟨_, hS5.bo.cell 8⟩
  obtain ⟨v6, hv6⟩ : ∃ v, v5.setCell ⟨w.heap.size + 2, 8, none⟩ (.string x.new.data) = v := ⟨_, rfl⟩
  have hS6 : OnS w x v6 { MD.k0 2 with tx := x.tx, prev := x.prev, nxt := x.nxt, key := x.key, new := x.new } := by rw [← hv6]; exact hS5.put 8 _ rfl
  have HS := Lib.hid hS6
  have hbo := HS.out.bo
  have hbr := HS.out.br
  clear hS0 hS1 hS2 hS3 hS4 hS5 hS6
  go_wp2_with (first | (refine wpList_load_rec' _ (by rfl) (by rfl) (by rfl) hbo ?_) | (refine wpList_store_rec (only2 x) (by rfl) _ _ (by rfl) (by rfl) (by rfl) hbr (by rfl) ?_; intro v9 hB9 hF9 hS9; have H9 := Lib.hid (And.intro hB9 (And.intro hF9 hS9)); clear hB9 hF9 hS9))
  refine bodyPost_ret (only_results H9.out.1 rfl) rfl ⟨rfl, HS.out.hb.trans (H9.out.2.1.below HS.out.hb.size (fun j hj => by have e : j = w.heap.size + 1 := hj; omega))⟩
set_option maxHeartbeats 8000000 in
theorem fonly3 (x : MD) (w : World) (hk : x.kind = 3) : Calls Try.prog 36 #[mVal x] w fun e w' => e = .returned (mVal (only3 x)) ∧ Below w.heap.size w w' := by
  obtain ⟨W, hW, hsz, hb, hx, hz⟩ := on0 w x
  have c0 : W.cell? ⟨w.heap.size, 0, none⟩ = some (.int .i64 3) := (hx.cell 0).trans (by show some (Value.int .i64 x.kind) = _; rw [hk])
  have hBz : Blk (W.alloc (.cells #[.int .i64 0, .int .i64 0, .int .i64 0, .int .i64 0, .string ⟨#[]⟩, .bool false, .string ⟨#[]⟩, .bool false, .string ⟨#[]⟩, .int .i64 0, .slice none 0 0, .slice none 0 0, .slice none 0 0, .slice none 0 0, .slice none 0 0, .slice none 0 0] 30)) W.heap.size 30 (mCells (MD.k0 0)) := Blk.new _ _ _
  have H := Lib.hid (And.intro hb (And.intro hx (And.intro hz (And.intro hsz hk))))
  clear hb hx hz hsz hk
  go_enter Try.func36, Try.ntmps36
  go_upto_region 2 with (refine wpList_store_rec (MD.k0 3) (by rfl) _ _ (by rfl) (by rfl) (by rfl) hBz (by rfl) ?_; intro v0 hB0 hF0 hS0)
  have hb0 : Below W.heap.size W v0 := ((Below.refl _ W).alloc (Nat.le_refl _) _).trans (hF0.below (by simp) (fun j hj => by have e : j = W.heap.size := hj; omega))
  rw [H.out.2.2.2.1] at hB0
  have hS0 : OnS w x v0 (MD.k0 3) := ⟨H.out.1.trans (hb0.mono (by have := H.out.2.2.2.1; omega)), H.out.2.1.below hb0 H.out.2.1.lt, H.out.2.2.1.below hb0 H.out.2.2.1.lt, hB0⟩
  have k0 : v0.cell? ⟨w.heap.size, 0, none⟩ = some (.int .i64 3) := cell_below hb0 c0
  have hsw := H.out.2.2.2.1
  clear hB0 hF0 hBz hb0 c0 hW
  have a0 : v0.cell? ⟨w.heap.size, 1, none⟩ = some (.int .i64 x.tx) := hS0.bx.cell 1
  have f0 := hS0.bo.free 1
  obtain ⟨z0, hz0⟩ : ∃ u, v0.cell? ⟨w.heap.size + 2, 1, none⟩ = some u := ⟨_, hS0.bo.cell 1⟩
  obtain ⟨v1, hv1⟩ : ∃ v, v0.setCell ⟨w.heap.size + 2, 1, none⟩ (.int .i64 x.tx) = v := ⟨_, rfl⟩
  have hS1 : OnS w x v1 { MD.k0 3 with tx := x.tx } := by rw [← hv1]; exact hS0.put 1 _ rfl
  have a1 : v1.cell? ⟨w.heap.size, 2, none⟩ = some (.int .i64 x.prev) := hS1.bx.cell 2
  have f1 := hS1.bo.free 2
  obtain ⟨z1, hz1⟩ : ∃ u, v1.cell? ⟨w.heap.size + 2, 2, none⟩ = some u := ⟨_, hS1.bo.cell 2⟩
  obtain ⟨v2, hv2⟩ : ∃ v, v1.setCell ⟨w.heap.size + 2, 2, none⟩ (.int .i64 x.prev) = v := ⟨_, rfl⟩
  have hS2 : OnS w x v2 { MD.k0 3 with tx := x.tx, prev := x.prev } := by rw [← hv2]; exact hS1.put 2 _ rfl
  have a2 : v2.cell? ⟨w.heap.size, 9, none⟩ = some (.int .i64 x.coord) := hS2.bx.cell 9
  have f2 := hS2.bo.free 9
  obtain ⟨z2, hz2⟩ : ∃ u, v2.cell? ⟨w.heap.size + 2, 9, none⟩ = some u := ⟨_, hS2.bo.cell 9⟩
  obtain ⟨v3, hv3⟩ : ∃ v, v2.setCell ⟨w.heap.size + 2, 9, none⟩ (.int .i64 x.coord) = v := ⟨_, rfl⟩
  have hS3 : OnS w x v3 { MD.k0 3 with tx := x.tx, prev := x.prev, coord := x.coord } := by rw [← hv3]; exact hS2.put 9 _ rfl
  have a3 : v3.cell? ⟨w.heap.size, 10, none⟩ = some (.slice x.mA x.mem.length x.mc) := hS3.bx.cell 10
  have f3 := hS3.bo.free 10
  obtain ⟨z3, hz3⟩ : ∃ u, v3.cell? ⟨w.heap.size + 2, 10, none⟩ = some u := ⟨_, hS3.bo.cell 10⟩
  obtain ⟨v4, hv4⟩ : ∃ v, v3.setCell ⟨w.heap.size + 2, 10, none⟩ (.slice x.mA x.mem.length x.mc) = v := ⟨_, rfl⟩
  have hS4 : OnS w x v4 { MD.k0 3 with tx := x.tx, prev := x.prev, coord := x.coord, mem := x.mem, mA := x.mA, mc := x.mc } := by rw [← hv4]; exact hS3.put 10 _ rfl
  have a4 : v4.cell? ⟨w.heap.size, 11, none⟩ = some (.slice x.lA x.locks.length x.lc) := hS4.bx.cell 11
  have f4 := hS4.bo.free 11
  obtain ⟨z4, hz4⟩ : ∃ u, v4.cell? ⟨w.heap.size + 2, 11, none⟩ = some u := ⟨_, hS4.bo.cell 11⟩
  obtain ⟨v5, hv5⟩ : ∃ v, v4.setCell ⟨w.heap.size + 2, 11, none⟩ (.slice x.lA x.locks.length x.lc) = v := ⟨_, rfl⟩
  have hS5 : OnS w x v5 { MD.k0 3 with tx := x.tx, prev := x.prev, coord := x.coord, mem := x.mem, mA := x.mA, mc := x.mc, locks := x.locks, lA := x.lA, lc := x.lc } := by rw [← hv5]; exact hS4.put 11 _ rfl
  have HS := Lib.hid hS5
  have hbo := HS.out.bo
  have hbr := HS.out.br
  clear hS0 hS1 hS2 hS3 hS4 hS5
  go_wp2_with (first | (refine wpList_load_rec' _ (by rfl) (by rfl) (by rfl) hbo ?_) | (refine wpList_store_rec (only3 x) (by rfl) _ _ (by rfl) (by rfl) (by rfl) hbr (by rfl) ?_; intro v9 hB9 hF9 hS9; have H9 := Lib.hid (And.intro hB9 (And.intro hF9 hS9)); clear hB9 hF9 hS9))
  refine bodyPost_ret (only_results H9.out.1 rfl) rfl ⟨rfl, HS.out.hb.trans (H9.out.2.1.below HS.out.hb.size (fun j hj => by have e : j = w.heap.size + 1 := hj; omega))⟩
set_option maxHeartbeats 8000000 in
theorem fonly4 (x : MD) (w : World) (hk : x.kind = 4) : Calls Try.prog 36 #[mVal x] w fun e w' => e = .returned (mVal (only4 x)) ∧ Below w.heap.size w w' := by
  obtain ⟨W, hW, hsz, hb, hx, hz⟩ := on0 w x
  have c0 : W.cell? ⟨w.heap.size, 0, none⟩ = some (.int .i64 4) := (hx.cell 0).trans (by show some (Value.int .i64 x.kind) = _; rw [hk])
  have hBz : Blk (W.alloc (.cells #[.int .i64 0, .int .i64 0, .int .i64 0, .int .i64 0, .string ⟨#[]⟩, .bool false, .string ⟨#[]⟩, .bool false, .string ⟨#[]⟩, .int .i64 0, .slice none 0 0, .slice none 0 0, .slice none 0 0, .slice none 0 0, .slice none 0 0, .slice none 0 0] 30)) W.heap.size 30 (mCells (MD.k0 0)) := Blk.new _ _ _
  have H := Lib.hid (And.intro hb (And.intro hx (And.intro hz (And.intro hsz hk))))
  clear hb hx hz hsz hk
  go_enter Try.func36, Try.ntmps36
  go_upto_region 2 with (refine wpList_store_rec (MD.k0 4) (by rfl) _ _ (by rfl) (by rfl) (by rfl) hBz (by rfl) ?_; intro v0 hB0 hF0 hS0)
  have hb0 : Below W.heap.size W v0 := ((Below.refl _ W).alloc (Nat.le_refl _) _).trans (hF0.below (by simp) (fun j hj => by have e : j = W.heap.size := hj; omega))
  rw [H.out.2.2.2.1] at hB0
  have hS0 : OnS w x v0 (MD.k0 4) := ⟨H.out.1.trans (hb0.mono (by have := H.out.2.2.2.1; omega)), H.out.2.1.below hb0 H.out.2.1.lt, H.out.2.2.1.below hb0 H.out.2.2.1.lt, hB0⟩
  have k0 : v0.cell? ⟨w.heap.size, 0, none⟩ = some (.int .i64 4) := cell_below hb0 c0
  have hsw := H.out.2.2.2.1
  clear hB0 hF0 hBz hb0 c0 hW
  have a0 : v0.cell? ⟨w.heap.size, 1, none⟩ = some (.int .i64 x.tx) := hS0.bx.cell 1
  have f0 := hS0.bo.free 1
  obtain ⟨z0, hz0⟩ : ∃ u, v0.cell? ⟨w.heap.size + 2, 1, none⟩ = some u := ⟨_, hS0.bo.cell 1⟩
  obtain ⟨v1, hv1⟩ : ∃ v, v0.setCell ⟨w.heap.size + 2, 1, none⟩ (.int .i64 x.tx) = v := ⟨_, rfl⟩
  have hS1 : OnS w x v1 { MD.k0 4 with tx := x.tx } := by rw [← hv1]; exact hS0.put 1 _ rfl
  have a1 : v1.cell? ⟨w.heap.size, 2, none⟩ = some (.int .i64 x.prev) := hS1.bx.cell 2
  have f1 := hS1.bo.free 2
  obtain ⟨z1, hz1⟩ : ∃ u, v1.cell? ⟨w.heap.size + 2, 2, none⟩ = some u := ⟨_, hS1.bo.cell 2⟩
  obtain ⟨v2, hv2⟩ : ∃ v, v1.setCell ⟨w.heap.size + 2, 2, none⟩ (.int .i64 x.prev) = v := ⟨_, rfl⟩
  have hS2 : OnS w x v2 { MD.k0 4 with tx := x.tx, prev := x.prev } := by rw [← hv2]; exact hS1.put 2 _ rfl
  have HS := Lib.hid hS2
  have hbo := HS.out.bo
  have hbr := HS.out.br
  clear hS0 hS1 hS2
  go_wp2_with (first | (refine wpList_load_rec' _ (by rfl) (by rfl) (by rfl) hbo ?_) | (refine wpList_store_rec (only4 x) (by rfl) _ _ (by rfl) (by rfl) (by rfl) hbr (by rfl) ?_; intro v9 hB9 hF9 hS9; have H9 := Lib.hid (And.intro hB9 (And.intro hF9 hS9)); clear hB9 hF9 hS9))
  refine bodyPost_ret (only_results H9.out.1 rfl) rfl ⟨rfl, HS.out.hb.trans (H9.out.2.1.below HS.out.hb.size (fun j hj => by have e : j = w.heap.size + 1 := hj; omega))⟩
set_option maxHeartbeats 8000000 in
theorem fonly5 (x : MD) (w : World) (hk : x.kind = 5) : Calls Try.prog 36 #[mVal x] w fun e w' => e = .returned (mVal (only5 x)) ∧ Below w.heap.size w w' := by
  obtain ⟨W, hW, hsz, hb, hx, hz⟩ := on0 w x
  have c0 : W.cell? ⟨w.heap.size, 0, none⟩ = some (.int .i64 5) := (hx.cell 0).trans (by show some (Value.int .i64 x.kind) = _; rw [hk])
  have hBz : Blk (W.alloc (.cells #[.int .i64 0, .int .i64 0, .int .i64 0, .int .i64 0, .string ⟨#[]⟩, .bool false, .string ⟨#[]⟩, .bool false, .string ⟨#[]⟩, .int .i64 0, .slice none 0 0, .slice none 0 0, .slice none 0 0, .slice none 0 0, .slice none 0 0, .slice none 0 0] 30)) W.heap.size 30 (mCells (MD.k0 0)) := Blk.new _ _ _
  have H := Lib.hid (And.intro hb (And.intro hx (And.intro hz (And.intro hsz hk))))
  clear hb hx hz hsz hk
  go_enter Try.func36, Try.ntmps36
  go_upto_region 2 with (refine wpList_store_rec (MD.k0 5) (by rfl) _ _ (by rfl) (by rfl) (by rfl) hBz (by rfl) ?_; intro v0 hB0 hF0 hS0)
  have hb0 : Below W.heap.size W v0 := ((Below.refl _ W).alloc (Nat.le_refl _) _).trans (hF0.below (by simp) (fun j hj => by have e : j = W.heap.size := hj; omega))
  rw [H.out.2.2.2.1] at hB0
  have hS0 : OnS w x v0 (MD.k0 5) := ⟨H.out.1.trans (hb0.mono (by have := H.out.2.2.2.1; omega)), H.out.2.1.below hb0 H.out.2.1.lt, H.out.2.2.1.below hb0 H.out.2.2.1.lt, hB0⟩
  have k0 : v0.cell? ⟨w.heap.size, 0, none⟩ = some (.int .i64 5) := cell_below hb0 c0
  have hsw := H.out.2.2.2.1
  clear hB0 hF0 hBz hb0 c0 hW
  have a0 : v0.cell? ⟨w.heap.size, 1, none⟩ = some (.int .i64 x.tx) := hS0.bx.cell 1
  have f0 := hS0.bo.free 1
  obtain ⟨z0, hz0⟩ : ∃ u, v0.cell? ⟨w.heap.size + 2, 1, none⟩ = some u := ⟨_, hS0.bo.cell 1⟩
  obtain ⟨v1, hv1⟩ : ∃ v, v0.setCell ⟨w.heap.size + 2, 1, none⟩ (.int .i64 x.tx) = v := ⟨_, rfl⟩
  have hS1 : OnS w x v1 { MD.k0 5 with tx := x.tx } := by rw [← hv1]; exact hS0.put 1 _ rfl
  have a1 : v1.cell? ⟨w.heap.size, 2, none⟩ = some (.int .i64 x.prev) := hS1.bx.cell 2
  have f1 := hS1.bo.free 2
  obtain ⟨z1, hz1⟩ : ∃ u, v1.cell? ⟨w.heap.size + 2, 2, none⟩ = some u := ⟨_, hS1.bo.cell 2⟩
  obtain ⟨v2, hv2⟩ : ∃ v, v1.setCell ⟨w.heap.size + 2, 2, none⟩ (.int .i64 x.prev) = v := ⟨_, rfl⟩
  have hS2 : OnS w x v2 { MD.k0 5 with tx := x.tx, prev := x.prev } := by rw [← hv2]; exact hS1.put 2 _ rfl
  have HS := Lib.hid hS2
  have hbo := HS.out.bo
  have hbr := HS.out.br
  clear hS0 hS1 hS2
  go_wp2_with (first | (refine wpList_load_rec' _ (by rfl) (by rfl) (by rfl) hbo ?_) | (refine wpList_store_rec (only5 x) (by rfl) _ _ (by rfl) (by rfl) (by rfl) hbr (by rfl) ?_; intro v9 hB9 hF9 hS9; have H9 := Lib.hid (And.intro hB9 (And.intro hF9 hS9)); clear hB9 hF9 hS9))
  refine bodyPost_ret (only_results H9.out.1 rfl) rfl ⟨rfl, HS.out.hb.trans (H9.out.2.1.below HS.out.hb.size (fun j hj => by have e : j = w.heap.size + 1 := hj; omega))⟩
set_option maxHeartbeats 8000000 in
theorem fonly6 (x : MD) (w : World) (hk : x.kind = 6) : Calls Try.prog 36 #[mVal x] w fun e w' => e = .returned (mVal (only6 x)) ∧ Below w.heap.size w w' := by
  obtain ⟨W, hW, hsz, hb, hx, hz⟩ := on0 w x
  have c0 : W.cell? ⟨w.heap.size, 0, none⟩ = some (.int .i64 6) := (hx.cell 0).trans (by show some (Value.int .i64 x.kind) = _; rw [hk])
  have hBz : Blk (W.alloc (.cells #[.int .i64 0, .int .i64 0, .int .i64 0, .int .i64 0, .string ⟨#[]⟩, .bool false, .string ⟨#[]⟩, .bool false, .string ⟨#[]⟩, .int .i64 0, .slice none 0 0, .slice none 0 0, .slice none 0 0, .slice none 0 0, .slice none 0 0, .slice none 0 0] 30)) W.heap.size 30 (mCells (MD.k0 0)) := Blk.new _ _ _
  have H := Lib.hid (And.intro hb (And.intro hx (And.intro hz (And.intro hsz hk))))
  clear hb hx hz hsz hk
  go_enter Try.func36, Try.ntmps36
  go_upto_region 2 with (refine wpList_store_rec (MD.k0 6) (by rfl) _ _ (by rfl) (by rfl) (by rfl) hBz (by rfl) ?_; intro v0 hB0 hF0 hS0)
  have hb0 : Below W.heap.size W v0 := ((Below.refl _ W).alloc (Nat.le_refl _) _).trans (hF0.below (by simp) (fun j hj => by have e : j = W.heap.size := hj; omega))
  rw [H.out.2.2.2.1] at hB0
  have hS0 : OnS w x v0 (MD.k0 6) := ⟨H.out.1.trans (hb0.mono (by have := H.out.2.2.2.1; omega)), H.out.2.1.below hb0 H.out.2.1.lt, H.out.2.2.1.below hb0 H.out.2.2.1.lt, hB0⟩
  have k0 : v0.cell? ⟨w.heap.size, 0, none⟩ = some (.int .i64 6) := cell_below hb0 c0
  have hsw := H.out.2.2.2.1
  clear hB0 hF0 hBz hb0 c0 hW
  have a0 : v0.cell? ⟨w.heap.size, 1, none⟩ = some (.int .i64 x.tx) := hS0.bx.cell 1
  have f0 := hS0.bo.free 1
  obtain ⟨z0, hz0⟩ : ∃ u, v0.cell? ⟨w.heap.size + 2, 1, none⟩ = some u := ⟨_, hS0.bo.cell 1⟩
  obtain ⟨v1, hv1⟩ : ∃ v, v0.setCell ⟨w.heap.size + 2, 1, none⟩ (.int .i64 x.tx) = v := ⟨_, rfl⟩
  have hS1 : OnS w x v1 { MD.k0 6 with tx := x.tx } := by rw [← hv1]; exact hS0.put 1 _ rfl
  have a1 : v1.cell? ⟨w.heap.size, 2, none⟩ = some (.int .i64 x.prev) := hS1.bx.cell 2
  have f1 := hS1.bo.free 2
  obtain ⟨z1, hz1⟩ : ∃ u, v1.cell? ⟨w.heap.size + 2, 2, none⟩ = some u := ⟨_, hS1.bo.cell 2⟩
  obtain ⟨v2, hv2⟩ : ∃ v, v1.setCell ⟨w.heap.size + 2, 2, none⟩ (.int .i64 x.prev) = v := ⟨_, rfl⟩
  have hS2 : OnS w x v2 { MD.k0 6 with tx := x.tx, prev := x.prev } := by rw [← hv2]; exact hS1.put 2 _ rfl
  have HS := Lib.hid hS2
  have hbo := HS.out.bo
  have hbr := HS.out.br
  clear hS0 hS1 hS2
  go_wp2_with (first | (refine wpList_load_rec' _ (by rfl) (by rfl) (by rfl) hbo ?_) | (refine wpList_store_rec (only6 x) (by rfl) _ _ (by rfl) (by rfl) (by rfl) hbr (by rfl) ?_; intro v9 hB9 hF9 hS9; have H9 := Lib.hid (And.intro hB9 (And.intro hF9 hS9)); clear hB9 hF9 hS9))
  refine bodyPost_ret (only_results H9.out.1 rfl) rfl ⟨rfl, HS.out.hb.trans (H9.out.2.1.below HS.out.hb.size (fun j hj => by have e : j = w.heap.size + 1 := hj; omega))⟩
set_option maxHeartbeats 8000000 in
theorem fonly7 (x : MD) (w : World) (hk : x.kind = 7) : Calls Try.prog 36 #[mVal x] w fun e w' => e = .returned (mVal (only7 x)) ∧ Below w.heap.size w w' := by
  obtain ⟨W, hW, hsz, hb, hx, hz⟩ := on0 w x
  have c0 : W.cell? ⟨w.heap.size, 0, none⟩ = some (.int .i64 7) := (hx.cell 0).trans (by show some (Value.int .i64 x.kind) = _; rw [hk])
  have hBz : Blk (W.alloc (.cells #[.int .i64 0, .int .i64 0, .int .i64 0, .int .i64 0, .string ⟨#[]⟩, .bool false, .string ⟨#[]⟩, .bool false, .string ⟨#[]⟩, .int .i64 0, .slice none 0 0, .slice none 0 0, .slice none 0 0, .slice none 0 0, .slice none 0 0, .slice none 0 0] 30)) W.heap.size 30 (mCells (MD.k0 0)) := Blk.new _ _ _
  have H := Lib.hid (And.intro hb (And.intro hx (And.intro hz (And.intro hsz hk))))
  clear hb hx hz hsz hk
  go_enter Try.func36, Try.ntmps36
  go_upto_region 2 with (refine wpList_store_rec (MD.k0 7) (by rfl) _ _ (by rfl) (by rfl) (by rfl) hBz (by rfl) ?_; intro v0 hB0 hF0 hS0)
  have hb0 : Below W.heap.size W v0 := ((Below.refl _ W).alloc (Nat.le_refl _) _).trans (hF0.below (by simp) (fun j hj => by have e : j = W.heap.size := hj; omega))
  rw [H.out.2.2.2.1] at hB0
  have hS0 : OnS w x v0 (MD.k0 7) := ⟨H.out.1.trans (hb0.mono (by have := H.out.2.2.2.1; omega)), H.out.2.1.below hb0 H.out.2.1.lt, H.out.2.2.1.below hb0 H.out.2.2.1.lt, hB0⟩
  have k0 : v0.cell? ⟨w.heap.size, 0, none⟩ = some (.int .i64 7) := cell_below hb0 c0
  have hsw := H.out.2.2.2.1
  clear hB0 hF0 hBz hb0 c0 hW
  have HS := Lib.hid hS0
  have hbo := HS.out.bo
  have hbr := HS.out.br
  clear hS0
  go_wp2_with (first | (refine wpList_load_rec' _ (by rfl) (by rfl) (by rfl) hbo ?_) | (refine wpList_store_rec (only7 x) (by rfl) _ _ (by rfl) (by rfl) (by rfl) hbr (by rfl) ?_; intro v9 hB9 hF9 hS9; have H9 := Lib.hid (And.intro hB9 (And.intro hF9 hS9)); clear hB9 hF9 hS9))
  refine bodyPost_ret (only_results H9.out.1 rfl) rfl ⟨rfl, HS.out.hb.trans (H9.out.2.1.below HS.out.hb.size (fun j hj => by have e : j = w.heap.size + 1 := hj; omega))⟩
set_option maxHeartbeats 8000000 in
theorem fonly8 (x : MD) (w : World) (hk : x.kind = 8) : Calls Try.prog 36 #[mVal x] w fun e w' => e = .returned (mVal (only8 x)) ∧ Below w.heap.size w w' := by
  obtain ⟨W, hW, hsz, hb, hx, hz⟩ := on0 w x
  have c0 : W.cell? ⟨w.heap.size, 0, none⟩ = some (.int .i64 8) := (hx.cell 0).trans (by show some (Value.int .i64 x.kind) = _; rw [hk])
  have hBz : Blk (W.alloc (.cells #[.int .i64 0, .int .i64 0, .int .i64 0, .int .i64 0, .string ⟨#[]⟩, .bool false, .string ⟨#[]⟩, .bool false, .string ⟨#[]⟩, .int .i64 0, .slice none 0 0, .slice none 0 0, .slice none 0 0, .slice none 0 0, .slice none 0 0, .slice none 0 0] 30)) W.heap.size 30 (mCells (MD.k0 0)) := Blk.new _ _ _
  have H := Lib.hid (And.intro hb (And.intro hx (And.intro hz (And.intro hsz hk))))
  clear hb hx hz hsz hk
  go_enter Try.func36, Try.ntmps36
  go_upto_region 2 with (refine wpList_store_rec (MD.k0 8) (by rfl) _ _ (by rfl) (by rfl) (by rfl) hBz (by rfl) ?_; intro v0 hB0 hF0 hS0)
  have hb0 : Below W.heap.size W v0 := ((Below.refl _ W).alloc (Nat.le_refl _) _).trans (hF0.below (by simp) (fun j hj => by have e : j = W.heap.size := hj; omega))
  rw [H.out.2.2.2.1] at hB0
  have hS0 : OnS w x v0 (MD.k0 8) := ⟨H.out.1.trans (hb0.mono (by have := H.out.2.2.2.1; omega)), H.out.2.1.below hb0 H.out.2.1.lt, H.out.2.2.1.below hb0 H.out.2.2.1.lt, hB0⟩
  have k0 : v0.cell? ⟨w.heap.size, 0, none⟩ = some (.int .i64 8) := cell_below hb0 c0
  have hsw := H.out.2.2.2.1
  clear hB0 hF0 hBz hb0 c0 hW
  have a0 : v0.cell? ⟨w.heap.size, 12, none⟩ = some (.slice x.rA x.rows.length x.rc) := hS0.bx.cell 12
  have f0 := hS0.bo.free 12
  obtain ⟨z0, hz0⟩ : ∃ u, v0.cell? ⟨w.heap.size + 2, 12, none⟩ = some u := ⟨_, hS0.bo.cell 12⟩
  obtain ⟨v1, hv1⟩ : ∃ v, v0.setCell ⟨w.heap.size + 2, 12, none⟩ (.slice x.rA x.rows.length x.rc) = v := ⟨_, rfl⟩
  have hS1 : OnS w x v1 { MD.k0 8 with rows := x.rows, rA := x.rA, rc := x.rc } := by rw [← hv1]; exact hS0.put 12 _ rfl
  have a1 : v1.cell? ⟨w.heap.size, 13, none⟩ = some (.slice x.dA x.dirty.length x.dc) := hS1.bx.cell 13
  have f1 := hS1.bo.free 13
  obtain ⟨z1, hz1⟩ : ∃ u, v1.cell? ⟨w.heap.size + 2, 13, none⟩ = some u := ⟨_, hS1.bo.cell 13⟩
  obtain ⟨v2, hv2⟩ : ∃ v, v1.setCell ⟨w.heap.size + 2, 13, none⟩ (.slice x.dA x.dirty.length x.dc) = v := ⟨_, rfl⟩
  have hS2 : OnS w x v2 { MD.k0 8 with rows := x.rows, rA := x.rA, rc := x.rc, dirty := x.dirty, dA := x.dA, dc := x.dc } := by rw [← hv2]; exact hS1.put 13 _ rfl
  have a2 : v2.cell? ⟨w.heap.size, 14, none⟩ = some (.slice x.eA x.deeds.length x.ec) := hS2.bx.cell 14
  have f2 := hS2.bo.free 14
  obtain ⟨z2, hz2⟩ : ∃ u, v2.cell? ⟨w.heap.size + 2, 14, none⟩ = some u := ⟨_, hS2.bo.cell 14⟩
  obtain ⟨v3, hv3⟩ : ∃ v, v2.setCell ⟨w.heap.size + 2, 14, none⟩ (.slice x.eA x.deeds.length x.ec) = v := ⟨_, rfl⟩
  have hS3 : OnS w x v3 { MD.k0 8 with rows := x.rows, rA := x.rA, rc := x.rc, dirty := x.dirty, dA := x.dA, dc := x.dc, deeds := x.deeds, eA := x.eA, ec := x.ec } := by rw [← hv3]; exact hS2.put 14 _ rfl
  have a3 : v3.cell? ⟨w.heap.size, 15, none⟩ = some (.slice x.pA x.past.length x.pc) := hS3.bx.cell 15
  have f3 := hS3.bo.free 15
  obtain ⟨z3, hz3⟩ : ∃ u, v3.cell? ⟨w.heap.size + 2, 15, none⟩ = some u := ⟨_, hS3.bo.cell 15⟩
  obtain ⟨v4, hv4⟩ : ∃ v, v3.setCell ⟨w.heap.size + 2, 15, none⟩ (.slice x.pA x.past.length x.pc) = v := ⟨_, rfl⟩
  have hS4 : OnS w x v4 { MD.k0 8 with rows := x.rows, rA := x.rA, rc := x.rc, dirty := x.dirty, dA := x.dA, dc := x.dc, deeds := x.deeds, eA := x.eA, ec := x.ec, past := x.past, pA := x.pA, pc := x.pc } := by rw [← hv4]; exact hS3.put 15 _ rfl
  have HS := Lib.hid hS4
  have hbo := HS.out.bo
  have hbr := HS.out.br
  clear hS0 hS1 hS2 hS3 hS4
  go_wp2_with (first | (refine wpList_load_rec' _ (by rfl) (by rfl) (by rfl) hbo ?_) | (refine wpList_store_rec (only8 x) (by rfl) _ _ (by rfl) (by rfl) (by rfl) hbr (by rfl) ?_; intro v9 hB9 hF9 hS9; have H9 := Lib.hid (And.intro hB9 (And.intro hF9 hS9)); clear hB9 hF9 hS9))
  refine bodyPost_ret (only_results H9.out.1 rfl) rfl ⟨rfl, HS.out.hb.trans (H9.out.2.1.below HS.out.hb.size (fun j hj => by have e : j = w.heap.size + 1 := hj; omega))⟩
set_option maxHeartbeats 8000000 in
theorem fonly9 (x : MD) (w : World) (hk : x.kind = 9) : Calls Try.prog 36 #[mVal x] w fun e w' => e = .returned (mVal (only9 x)) ∧ Below w.heap.size w w' := by
  obtain ⟨W, hW, hsz, hb, hx, hz⟩ := on0 w x
  have c0 : W.cell? ⟨w.heap.size, 0, none⟩ = some (.int .i64 9) := (hx.cell 0).trans (by show some (Value.int .i64 x.kind) = _; rw [hk])
  have hBz : Blk (W.alloc (.cells #[.int .i64 0, .int .i64 0, .int .i64 0, .int .i64 0, .string ⟨#[]⟩, .bool false, .string ⟨#[]⟩, .bool false, .string ⟨#[]⟩, .int .i64 0, .slice none 0 0, .slice none 0 0, .slice none 0 0, .slice none 0 0, .slice none 0 0, .slice none 0 0] 30)) W.heap.size 30 (mCells (MD.k0 0)) := Blk.new _ _ _
  have H := Lib.hid (And.intro hb (And.intro hx (And.intro hz (And.intro hsz hk))))
  clear hb hx hz hsz hk
  go_enter Try.func36, Try.ntmps36
  go_upto_region 2 with (refine wpList_store_rec (MD.k0 9) (by rfl) _ _ (by rfl) (by rfl) (by rfl) hBz (by rfl) ?_; intro v0 hB0 hF0 hS0)
  have hb0 : Below W.heap.size W v0 := ((Below.refl _ W).alloc (Nat.le_refl _) _).trans (hF0.below (by simp) (fun j hj => by have e : j = W.heap.size := hj; omega))
  rw [H.out.2.2.2.1] at hB0
  have hS0 : OnS w x v0 (MD.k0 9) := ⟨H.out.1.trans (hb0.mono (by have := H.out.2.2.2.1; omega)), H.out.2.1.below hb0 H.out.2.1.lt, H.out.2.2.1.below hb0 H.out.2.2.1.lt, hB0⟩
  have k0 : v0.cell? ⟨w.heap.size, 0, none⟩ = some (.int .i64 9) := cell_below hb0 c0
  have hsw := H.out.2.2.2.1
  clear hB0 hF0 hBz hb0 c0 hW
  have a0 : v0.cell? ⟨w.heap.size, 1, none⟩ = some (.int .i64 x.tx) := hS0.bx.cell 1
  have f0 := hS0.bo.free 1
  obtain ⟨z0, hz0⟩ : ∃ u, v0.cell? ⟨w.heap.size + 2, 1, none⟩ = some u := ⟨_, hS0.bo.cell 1⟩
  obtain ⟨v1, hv1⟩ : ∃ v, v0.setCell ⟨w.heap.size + 2, 1, none⟩ (.int .i64 x.tx) = v := ⟨_, rfl⟩
  have hS1 : OnS w x v1 { MD.k0 9 with tx := x.tx } := by rw [← hv1]; exact hS0.put 1 _ rfl
  have a1 : v1.cell? ⟨w.heap.size, 10, none⟩ = some (.slice x.mA x.mem.length x.mc) := hS1.bx.cell 10
  have f1 := hS1.bo.free 10
  obtain ⟨z1, hz1⟩ : ∃ u, v1.cell? ⟨w.heap.size + 2, 10, none⟩ = some u := ⟨_, hS1.bo.cell 10⟩
  obtain ⟨v2, hv2⟩ : ∃ v, v1.setCell ⟨w.heap.size + 2, 10, none⟩ (.slice x.mA x.mem.length x.mc) = v := ⟨_, rfl⟩
  have hS2 : OnS w x v2 { MD.k0 9 with tx := x.tx, mem := x.mem, mA := x.mA, mc := x.mc } := by rw [← hv2]; exact hS1.put 10 _ rfl
  have HS := Lib.hid hS2
  have hbo := HS.out.bo
  have hbr := HS.out.br
  clear hS0 hS1 hS2
  go_wp2_with (first | (refine wpList_load_rec' _ (by rfl) (by rfl) (by rfl) hbo ?_) | (refine wpList_store_rec (only9 x) (by rfl) _ _ (by rfl) (by rfl) (by rfl) hbr (by rfl) ?_; intro v9 hB9 hF9 hS9; have H9 := Lib.hid (And.intro hB9 (And.intro hF9 hS9)); clear hB9 hF9 hS9))
  refine bodyPost_ret (only_results H9.out.1 rfl) rfl ⟨rfl, HS.out.hb.trans (H9.out.2.1.below HS.out.hb.size (fun j hj => by have e : j = w.heap.size + 1 := hj; omega))⟩
set_option maxHeartbeats 8000000 in
theorem fonly10 (x : MD) (w : World) (hk : x.kind = 10) : Calls Try.prog 36 #[mVal x] w fun e w' => e = .returned (mVal (only10 x)) ∧ Below w.heap.size w w' := by
  obtain ⟨W, hW, hsz, hb, hx, hz⟩ := on0 w x
  have c0 : W.cell? ⟨w.heap.size, 0, none⟩ = some (.int .i64 10) := (hx.cell 0).trans (by show some (Value.int .i64 x.kind) = _; rw [hk])
  have hBz : Blk (W.alloc (.cells #[.int .i64 0, .int .i64 0, .int .i64 0, .int .i64 0, .string ⟨#[]⟩, .bool false, .string ⟨#[]⟩, .bool false, .string ⟨#[]⟩, .int .i64 0, .slice none 0 0, .slice none 0 0, .slice none 0 0, .slice none 0 0, .slice none 0 0, .slice none 0 0] 30)) W.heap.size 30 (mCells (MD.k0 0)) := Blk.new _ _ _
  have H := Lib.hid (And.intro hb (And.intro hx (And.intro hz (And.intro hsz hk))))
  clear hb hx hz hsz hk
  go_enter Try.func36, Try.ntmps36
  go_upto_region 2 with (refine wpList_store_rec (MD.k0 10) (by rfl) _ _ (by rfl) (by rfl) (by rfl) hBz (by rfl) ?_; intro v0 hB0 hF0 hS0)
  have hb0 : Below W.heap.size W v0 := ((Below.refl _ W).alloc (Nat.le_refl _) _).trans (hF0.below (by simp) (fun j hj => by have e : j = W.heap.size := hj; omega))
  rw [H.out.2.2.2.1] at hB0
  have hS0 : OnS w x v0 (MD.k0 10) := ⟨H.out.1.trans (hb0.mono (by have := H.out.2.2.2.1; omega)), H.out.2.1.below hb0 H.out.2.1.lt, H.out.2.2.1.below hb0 H.out.2.2.1.lt, hB0⟩
  have k0 : v0.cell? ⟨w.heap.size, 0, none⟩ = some (.int .i64 10) := cell_below hb0 c0
  have hsw := H.out.2.2.2.1
  clear hB0 hF0 hBz hb0 c0 hW
  have a0 : v0.cell? ⟨w.heap.size, 1, none⟩ = some (.int .i64 x.tx) := hS0.bx.cell 1
  have f0 := hS0.bo.free 1
  obtain ⟨z0, hz0⟩ : ∃ u, v0.cell? ⟨w.heap.size + 2, 1, none⟩ = some u := ⟨_, hS0.bo.cell 1⟩
  obtain ⟨v1, hv1⟩ : ∃ v, v0.setCell ⟨w.heap.size + 2, 1, none⟩ (.int .i64 x.tx) = v := ⟨_, rfl⟩
  have hS1 : OnS w x v1 { MD.k0 10 with tx := x.tx } := by rw [← hv1]; exact hS0.put 1 _ rfl
  have HS := Lib.hid hS1
  have hbo := HS.out.bo
  have hbr := HS.out.br
  clear hS0 hS1
  go_wp2_with (first | (refine wpList_load_rec' _ (by rfl) (by rfl) (by rfl) hbo ?_) | (refine wpList_store_rec (only10 x) (by rfl) _ _ (by rfl) (by rfl) (by rfl) hbr (by rfl) ?_; intro v9 hB9 hF9 hS9; have H9 := Lib.hid (And.intro hB9 (And.intro hF9 hS9)); clear hB9 hF9 hS9))
  refine bodyPost_ret (only_results H9.out.1 rfl) rfl ⟨rfl, HS.out.hb.trans (H9.out.2.1.below HS.out.hb.size (fun j hj => by have e : j = w.heap.size + 1 := hj; omega))⟩
end Go.Proofs.Ytlijfnekopjogaa
