/- The fields of a record's kind, and no others: the document's only (printed by gen_only.py). -/
import Derived.Test.YtlijfnekopjogaaRecSame5
import Derived.Test.YtlijfnekopjogaaRecD1s
import Derived.Deep.DeepCutAuto
namespace Go.Proofs.Ytlijfnekopjogaa
open Go Go.RowKit Mem Rc
set_option maxRecDepth 100000
set_option linter.unusedVariables false
set_option linter.unusedSimpArgs false

structure OnS (w : World) (x : MD) (v : World) (y : MD) : Prop where
  hb : Below w.heap.size w v
  bx : Blk v w.heap.size 30 (mCells x)
  br : Blk v (w.heap.size + 1) 30 (mCells (MD.k0 0))
  bo : Blk v (w.heap.size + 2) 30 (mCells y)
theorem OnS.put {w v : World} {x y y' : MD} (h : OnS w x v y) (i : Nat) (val : Value) (hy : (mCells y).setIfInBounds i val = mCells y') : OnS w x (v.setCell ⟨w.heap.size + 2, i, none⟩ val) y' := by
  have hf : Fr (fun k => k = w.heap.size + 2) v (v.setCell ⟨w.heap.size + 2, i, none⟩ val) := (Fr.refl _ _).setCell _ _ (fun _ => rfl)
  refine ⟨h.hb.trans (hf.below h.hb.size (fun j hj => by have e : j = w.heap.size + 2 := hj; omega)), h.bx.keep (hf.block _ h.bx.lt (fun e => by have e : w.heap.size = w.heap.size + 2 := e; omega)), h.br.keep (hf.block _ h.br.lt (fun e => by have e : w.heap.size + 1 = w.heap.size + 2 := e; omega)), ?_⟩
  rw [← hy]
  exact h.bo.put i val
theorem on0 (w : World) (x : MD) : ∃ W, (w.alloc (.cells (mCells x) 30)).alloc (.cells #[.int .i64 0, .int .i64 0, .int .i64 0, .int .i64 0, .string ⟨#[]⟩, .bool false, .string ⟨#[]⟩, .bool false, .string ⟨#[]⟩, .int .i64 0, .slice none 0 0, .slice none 0 0, .slice none 0 0, .slice none 0 0, .slice none 0 0, .slice none 0 0] 30) = W ∧ W.heap.size = w.heap.size + 2 ∧ Below w.heap.size w W ∧ Blk W w.heap.size 30 (mCells x) ∧ Blk W (w.heap.size + 1) 30 (mCells (MD.k0 0)) := by
  refine ⟨_, rfl, by simp, ((Below.refl _ _).alloc (Nat.le_refl _) _).alloc (by simp) _, (Blk.new _ _ _).alloc _, ?_⟩
  have := Blk.new (w.alloc (.cells (mCells x) 30)) 30 (mCells (MD.k0 0))
  rwa [show (w.alloc (.cells (mCells x) 30)).heap.size = w.heap.size + 1 by simp] at this
theorem only_results {W : World} {g : Nat} {x : MD} {tmps : Array Value} (hb : Blk W g 30 (mCells x)) (h2 : tmps.getD 2 undef = .pointer (some ⟨g, 0, none⟩)) :
    (results Try.f36 tmps).run Try.prog W = .ok (mVal x) W := by
  have hl := rec_loadVar hb
  generalize mVal x = X at *
  simp only [Array.getD_eq_getD_getElem?] at h2
  simp [results, Try.results36, h2, asAddr, hl]
def only1 (x : MD) : MD := ({ MD.k0 1 with tx := x.tx, prev := x.prev, key := x.key, old := x.old, new := x.new } : MD)
def only2 (x : MD) : MD := ({ MD.k0 2 with tx := x.tx, prev := x.prev, nxt := x.nxt, key := x.key, new := x.new } : MD)
def only3 (x : MD) : MD := ({ MD.k0 3 with tx := x.tx, prev := x.prev, coord := x.coord, mem := x.mem, mA := x.mA, mc := x.mc, locks := x.locks, lA := x.lA, lc := x.lc } : MD)
def only4 (x : MD) : MD := ({ MD.k0 4 with tx := x.tx, prev := x.prev } : MD)
def only5 (x : MD) : MD := ({ MD.k0 5 with tx := x.tx, prev := x.prev } : MD)
def only6 (x : MD) : MD := ({ MD.k0 6 with tx := x.tx, prev := x.prev } : MD)
def only7 (x : MD) : MD := MD.k0 7
def only8 (x : MD) : MD := ({ MD.k0 8 with rows := x.rows, rA := x.rA, rc := x.rc, dirty := x.dirty, dA := x.dA, dc := x.dc, deeds := x.deeds, eA := x.eA, ec := x.ec, past := x.past, pA := x.pA, pc := x.pc } : MD)
def only9 (x : MD) : MD := ({ MD.k0 9 with tx := x.tx, mem := x.mem, mA := x.mA, mc := x.mc } : MD)
def only10 (x : MD) : MD := ({ MD.k0 10 with tx := x.tx } : MD)
set_option maxHeartbeats 8000000 in
theorem fonly1 (x : MD) (w : World) (hk : x.kind = 1) : Calls Try.prog 36 #[mVal x] w fun e w' => e = .returned (mVal (only1 x)) ∧ Below w.heap.size w w' := by
  obtain ⟨W, hW, hsz, hb, hx, hz⟩ := on0 w x
  have c0 : W.cell? ⟨w.heap.size, 0, none⟩ = some (.int .i64 1) := (hx.cell 0).trans (by show some (Value.int .i64 x.kind) = _; rw [hk])
  have hBz : Blk (W.alloc (.cells #[.int .i64 0, .int .i64 0, .int .i64 0, .int .i64 0, .string ⟨#[]⟩, .bool false, .string ⟨#[]⟩, .bool false, .string ⟨#[]⟩, .int .i64 0, .slice none 0 0, .slice none 0 0, .slice none 0 0, .slice none 0 0, .slice none 0 0, .slice none 0 0] 30)) W.heap.size 30 (mCells (MD.k0 0)) := Blk.new _ _ _
  have H := Lib.hid (And.intro hb (And.intro hx (And.intro hz (And.intro hsz hk))))
  clear hb hx hz hsz hk
  go_enter Try.func36, Try.ntmps36
  go_upto_region 2 with (refine wpList_store_rec (MD.k0 1) (by rfl) _ _ (by rfl) (by rfl) (by rfl) hBz (by rfl) ?_; intro v0 hB0 hF0 hS0)
  have hb0 : Below W.heap.size W v0 := ((Below.refl _ W).alloc (Nat.le_refl _) _).trans (hF0.below (by simp) (fun j hj => by have e : j = W.heap.size := hj; omega))
  rw [H.out.2.2.2.1] at hB0
  have hS0 : OnS w x v0 (MD.k0 1) := ⟨H.out.1.trans (hb0.mono (by have := H.out.2.2.2.1; omega)), H.out.2.1.below hb0 H.out.2.1.lt, H.out.2.2.1.below hb0 H.out.2.2.1.lt, hB0⟩
  have k0 : v0.cell? ⟨w.heap.size, 0, none⟩ = some (.int .i64 1) := cell_below hb0 c0
  have hsw := H.out.2.2.2.1
  clear hB0 hF0 hBz hb0 c0 hW
  have a0 : v0.cell? ⟨w.heap.size, 1, none⟩ = some (.int .i64 x.tx) := hS0.bx.cell 1
  have f0 := hS0.bo.free 1
  obtain ⟨z0, hz0⟩ : ∃ u, v0.cell? ⟨w.heap.size + 2, 1, none⟩ = some u := ⟨_, hS0.bo.cell 1⟩
  obtain ⟨v1, hv1⟩ : ∃ v, v0.setCell ⟨w.heap.size + 2, 1, none⟩ (.int .i64 x.tx) = v := ⟨_, rfl⟩
  have hS1 : OnS w x v1 { MD.k0 1 with tx := x.tx } := by rw [← hv1]; exact hS0.put 1 _ rfl
  have a1 : v1.cell? ⟨w.heap.size, 2, none⟩ = some (.int .i64 x.prev) := hS1.bx.cell 2
  have f1 := hS1.bo.free 2
  obtain ⟨z1, hz1⟩ : ∃ u, v1.cell? ⟨w.heap.size + 2, 2, none⟩ = some u := ⟨_, hS1.bo.cell 2⟩
  obtain ⟨v2, hv2⟩ : ∃ v, v1.setCell ⟨w.heap.size + 2, 2, none⟩ (.int .i64 x.prev) = v := ⟨_, rfl⟩
  have hS2 : OnS w x v2 { MD.k0 1 with tx := x.tx, prev := x.prev } := by rw [← hv2]; exact hS1.put 2 _ rfl
  have a2 : v2.cell? ⟨w.heap.size, 4, none⟩ = some (.string x.key) := hS2.bx.cell 4
  have f2 := hS2.bo.free 4
  obtain ⟨z2, hz2⟩ : ∃ u, v2.cell? ⟨w.heap.size + 2, 4, none⟩ = some u := ⟨_, hS2.bo.cell 4⟩
  obtain ⟨v3, hv3⟩ : ∃ v, v2.setCell ⟨w.heap.size + 2, 4, none⟩ (.string x.key) = v := ⟨_, rfl⟩
  have hS3 : OnS w x v3 { MD.k0 1 with tx := x.tx, prev := x.prev, key := x.key } := by rw [← hv3]; exact hS2.put 4 _ rfl
  have a3 : v3.cell? ⟨w.heap.size, 5, none⟩ = some (.bool x.old.has) := hS3.bx.cell 5
  have f3 := hS3.bo.free 5
  obtain ⟨z3, hz3⟩ : ∃ u, v3.cell? ⟨w.heap.size + 2, 5, none⟩ = some u := ⟨_, hS3.bo.cell 5⟩
  have a3b : v3.cell? ⟨w.heap.size, 6, none⟩ = some (.string x.old.data) := hS3.bx.cell 6
  have f3b := hS3.bo.free 6
  obtain ⟨z3b, hz3b⟩ : ∃ u, v3.cell? ⟨w.heap.size + 2, 6, none⟩ = some u := ⟨_, hS3.bo.cell 6⟩
  obtain ⟨v4, hv4⟩ : ∃ v, v3.setCell ⟨w.heap.size + 2, 5, none⟩ (.bool x.old.has) = v := ⟨_, rfl⟩
  have hS4 : OnS w x v4 { MD.k0 1 with tx := x.tx, prev := x.prev, key := x.key, old := ⟨x.old.has, ⟨#[]⟩⟩ } := by rw [← hv4]; exact hS3.put 5 _ rfl
  have a4 : v4.cell? ⟨w.heap.size, 6, none⟩ = some (.string x.old.data) := hS4.bx.cell 6
  have f4 := hS4.bo.free 6
  obtain ⟨z4, hz4⟩ : ∃ u, v4.cell? ⟨w.heap.size + 2, 6, none⟩ = some u := ⟨_, hS4.bo.cell 6⟩
  obtain ⟨v5, hv5⟩ : ∃ v, v4.setCell ⟨w.heap.size + 2, 6, none⟩ (.string x.old.data) = v := ⟨_, rfl⟩
  have hS5 : OnS w x v5 { MD.k0 1 with tx := x.tx, prev := x.prev, key := x.key, old := x.old } := by rw [← hv5]; exact hS4.put 6 _ rfl
  have a5 : v5.cell? ⟨w.heap.size, 7, none⟩ = some (.bool x.new.has) := hS5.bx.cell 7
  have f5 := hS5.bo.free 7
  obtain ⟨z5, hz5⟩ : ∃ u, v5.cell? ⟨w.heap.size + 2, 7, none⟩ = some u := ⟨_, hS5.bo.cell 7⟩
  have a5b : v5.cell? ⟨w.heap.size, 8, none⟩ = some (.string x.new.data) := hS5.bx.cell 8
  have f5b := hS5.bo.free 8
  obtain ⟨z5b, hz5b⟩ : ∃ u, v5.cell? ⟨w.heap.size + 2, 8, none⟩ = some u := ⟨_, hS5.bo.cell 8⟩
  obtain ⟨v6, hv6⟩ : ∃ v, v5.setCell ⟨w.heap.size + 2, 7, none⟩ (.bool x.new.has) = v := ⟨_, rfl⟩
  have hS6 : OnS w x v6 { MD.k0 1 with tx := x.tx, prev := x.prev, key := x.key, old := x.old, new := ⟨x.new.has, ⟨#[]⟩⟩ } := by rw [← hv6]; exact hS5.put 7 _ rfl
  have a6 : v6.cell? ⟨w.heap.size, 8, none⟩ = some (.string x.new.data) := hS6.bx.cell 8
  have f6 := hS6.bo.free 8
  obtain ⟨z6, hz6⟩ : ∃ u, v6.cell? ⟨w.heap.size + 2, 8, none⟩ = some u := ⟨_, hS6.bo.cell 8⟩
  obtain ⟨v7, hv7⟩ : ∃ v, v6.setCell ⟨w.heap.size + 2, 8, none⟩ (.string x.new.data) = v := ⟨_, rfl⟩
  have hS7 : OnS w x v7 { MD.k0 1 with tx := x.tx, prev := x.prev, key := x.key, old := x.old, new := x.new } := by rw [← hv7]; exact hS6.put 8 _ rfl
  have HS := Lib.hid hS7
  have hbo := HS.out.bo
  have hbr := HS.out.br
  clear hS0 hS1 hS2 hS3 hS4 hS5 hS6 hS7
  go_wp2_with (first | (refine wpList_load_rec' _ (by rfl) (by rfl) (by rfl) hbo ?_) | (refine wpList_store_rec (only1 x) (by rfl) _ _ (by rfl) (by rfl) (by rfl) hbr (by rfl) ?_; intro v9 hB9 hF9 hS9; have H9 := Lib.hid (And.intro hB9 (And.intro hF9 hS9)); clear hB9 hF9 hS9))
  refine bodyPost_ret (only_results H9.out.1 rfl) rfl ⟨rfl, HS.out.hb.trans (H9.out.2.1.below HS.out.hb.size (fun j hj => by have e : j = w.heap.size + 1 := hj; omega))⟩
set_option maxHeartbeats 8000000 in
theorem fonly2 (x : MD) (w : World) (hk : x.kind = 2) : Calls Try.prog 36 #[mVal x] w fun e w' => e = .returned (mVal (only2 x)) ∧ Below w.heap.size w w' := by
  obtain ⟨W, hW, hsz, hb, hx, hz⟩ := on0 w x
  have c0 : W.cell? ⟨w.heap.size, 0, none⟩ = some (.int .i64 2) := (hx.cell 0).trans (by show some (Value.int .i64 x.kind) = _; rw [hk])
  have hBz : Blk (W.alloc (.cells #[.int .i64 0, .int .i64 0, .int .i64 0, .int .i64 0, .string ⟨#[]⟩, .bool false, .string ⟨#[]⟩, .bool false, .string ⟨#[]⟩, .int .i64 0, .slice none 0 0, .slice none 0 0, .slice none 0 0, .slice none 0 0, .slice none 0 0, .slice none 0 0] 30)) W.heap.size 30 (mCells (MD.k0 0)) := Blk.new _ _ _
  have H := Lib.hid (And.intro hb (And.intro hx (And.intro hz (And.intro hsz hk))))
  clear hb hx hz hsz hk
  go_enter Try.func36, Try.ntmps36
  go_upto_region 2 with (refine wpList_store_rec (MD.k0 2) (by rfl) _ _ (by rfl) (by rfl) (by rfl) hBz (by rfl) ?_; intro v0 hB0 hF0 hS0)
  have hb0 : Below W.heap.size W v0 := ((Below.refl _ W).alloc (Nat.le_refl _) _).trans (hF0.below (by simp) (fun j hj => by have e : j = W.heap.size := hj; omega))
  rw [H.out.2.2.2.1] at hB0
  have hS0 : OnS w x v0 (MD.k0 2) := ⟨H.out.1.trans (hb0.mono (by have := H.out.2.2.2.1; omega)), H.out.2.1.below hb0 H.out.2.1.lt, H.out.2.2.1.below hb0 H.out.2.2.1.lt, hB0⟩
  have k0 : v0.cell? ⟨w.heap.size, 0, none⟩ = some (.int .i64 2) := cell_below hb0 c0
  have hsw := H.out.2.2.2.1
  clear hB0 hF0 hBz hb0 c0 hW
  have a0 : v0.cell? ⟨w.heap.size, 1, none⟩ = some (.int .i64 x.tx) := hS0.bx.cell 1
  have f0 := hS0.bo.free 1
  obtain ⟨z0, hz0⟩ : ∃ u, v0.cell? ⟨w.heap.size + 2, 1, none⟩ = some u := ⟨_, hS0.bo.cell 1⟩
  obtain ⟨v1, hv1⟩ : ∃ v, v0.setCell ⟨w.heap.size + 2, 1, none⟩ (.int .i64 x.tx) = v := ⟨_, rfl⟩
  have hS1 : OnS w x v1 { MD.k0 2 with tx := x.tx } := by rw [← hv1]; exact hS0.put 1 _ rfl
  have a1 : v1.cell? ⟨w.heap.size, 2, none⟩ = some (.int .i64 x.prev) := hS1.bx.cell 2
  have f1 := hS1.bo.free 2
  obtain ⟨z1, hz1⟩ : ∃ u, v1.cell? ⟨w.heap.size + 2, 2, none⟩ = some u := ⟨_, hS1.bo.cell 2⟩
  obtain ⟨v2, hv2⟩ : ∃ v, v1.setCell ⟨w.heap.size + 2, 2, none⟩ (.int .i64 x.prev) = v := ⟨_, rfl⟩
  have hS2 : OnS w x v2 { MD.k0 2 with tx := x.tx, prev := x.prev } := by rw [← hv2]; exact hS1.put 2 _ rfl
  have a2 : v2.cell? ⟨w.heap.size, 3, none⟩ = some (.int .i64 x.nxt) := hS2.bx.cell 3
  have f2 := hS2.bo.free 3
  obtain ⟨z2, hz2⟩ : ∃ u, v2.cell? ⟨w.heap.size + 2, 3, none⟩ = some u := ⟨_, hS2.bo.cell 3⟩
  obtain ⟨v3, hv3⟩ : ∃ v, v2.setCell ⟨w.heap.size + 2, 3, none⟩ (.int .i64 x.nxt) = v := ⟨_, rfl⟩
  have hS3 : OnS w x v3 { MD.k0 2 with tx := x.tx, prev := x.prev, nxt := x.nxt } := by rw [← hv3]; exact hS2.put 3 _ rfl
  have a3 : v3.cell? ⟨w.heap.size, 4, none⟩ = some (.string x.key) := hS3.bx.cell 4
  have f3 := hS3.bo.free 4
  obtain ⟨z3, hz3⟩ : ∃ u, v3.cell? ⟨w.heap.size + 2, 4, none⟩ = some u := ⟨_, hS3.bo.cell 4⟩
  obtain ⟨v4, hv4⟩ : ∃ v, v3.setCell ⟨w.heap.size + 2, 4, none⟩ (.string x.key) = v := ⟨_, rfl⟩
  have hS4 : OnS w x v4 { MD.k0 2 with tx := x.tx, prev := x.prev, nxt := x.nxt, key := x.key } := by rw [← hv4]; exact hS3.put 4 _ rfl
  have a4 : v4.cell? ⟨w.heap.size, 7, none⟩ = some (.bool x.new.has) := hS4.bx.cell 7
  have f4 := hS4.bo.free 7
  obtain ⟨z4, hz4⟩ : ∃ u, v4.cell? ⟨w.heap.size + 2, 7, none⟩ = some u := ⟨_, hS4.bo.cell 7⟩
  have a4b : v4.cell? ⟨w.heap.size, 8, none⟩ = some (.string x.new.data) := hS4.bx.cell 8
  have f4b := hS4.bo.free 8
  obtain ⟨z4b, hz4b⟩ : ∃ u, v4.cell? ⟨w.heap.size + 2, 8, none⟩ = some u := ⟨_, hS4.bo.cell 8⟩
  obtain ⟨v5, hv5⟩ : ∃ v, v4.setCell ⟨w.heap.size + 2, 7, none⟩ (.bool x.new.has) = v := ⟨_, rfl⟩
  have hS5 : OnS w x v5 { MD.k0 2 with tx := x.tx, prev := x.prev, nxt := x.nxt, key := x.key, new := ⟨x.new.has, ⟨#[]⟩⟩ } := by rw [← hv5]; exact hS4.put 7 _ rfl
  have a5 : v5.cell? ⟨w.heap.size, 8, none⟩ = some (.string x.new.data) := hS5.bx.cell 8
  have f5 := hS5.bo.free 8
  obtain ⟨z5, hz5⟩ : ∃ u, v5.cell? ⟨w.heap.size + 2, 8, none⟩ = some u := ⟨_, hS5.bo.cell 8⟩
  obtain ⟨v6, hv6⟩ : ∃ v, v5.setCell ⟨w.heap.size + 2, 8, none⟩ (.string x.new.data) = v := ⟨_, rfl⟩
  have hS6 : OnS w x v6 { MD.k0 2 with tx := x.tx, prev := x.prev, nxt := x.nxt, key := x.key, new := x.new } := by rw [← hv6]; exact hS5.put 8 _ rfl
  have HS := Lib.hid hS6
  have hbo := HS.out.bo
  have hbr := HS.out.br
  clear hS0 hS1 hS2 hS3 hS4 hS5 hS6
  go_wp2_with (first | (refine wpList_load_rec' _ (by rfl) (by rfl) (by rfl) hbo ?_) | (refine wpList_store_rec (only2 x) (by rfl) _ _ (by rfl) (by rfl) (by rfl) hbr (by rfl) ?_; intro v9 hB9 hF9 hS9; have H9 := Lib.hid (And.intro hB9 (And.intro hF9 hS9)); clear hB9 hF9 hS9))
  refine bodyPost_ret (only_results H9.out.1 rfl) rfl ⟨rfl, HS.out.hb.trans (H9.out.2.1.below HS.out.hb.size (fun j hj => by have e : j = w.heap.size + 1 := hj; omega))⟩
set_option maxHeartbeats 8000000 in
theorem fonly3 (x : MD) (w : World) (hk : x.kind = 3) : Calls Try.prog 36 #[mVal x] w fun e w' => e = .returned (mVal (only3 x)) ∧ Below w.heap.size w w' := by
  obtain ⟨W, hW, hsz, hb, hx, hz⟩ := on0 w x
  have c0 : W.cell? ⟨w.heap.size, 0, none⟩ = some (.int .i64 3) := (hx.cell 0).trans (by show some (Value.int .i64 x.kind) = _; rw [hk])
  have hBz : Blk (W.alloc (.cells #[.int .i64 0, .int .i64 0, .int .i64 0, .int .i64 0, .string ⟨#[]⟩, .bool false, .string ⟨#[]⟩, .bool false, .string ⟨#[]⟩, .int .i64 0, .slice none 0 0, .slice none 0 0, .slice none 0 0, .slice none 0 0, .slice none 0 0, .slice none 0 0] 30)) W.heap.size 30 (mCells (MD.k0 0)) := Blk.new _ _ _
  have H := Lib.hid (And.intro hb (And.intro hx (And.intro hz (And.intro hsz hk))))
  clear hb hx hz hsz hk
  go_enter Try.func36, Try.ntmps36
  go_upto_region 2 with (refine wpList_store_rec (MD.k0 3) (by rfl) _ _ (by rfl) (by rfl) (by rfl) hBz (by rfl) ?_; intro v0 hB0 hF0 hS0)
  have hb0 : Below W.heap.size W v0 := ((Below.refl _ W).alloc (Nat.le_refl _) _).trans (hF0.below (by simp) (fun j hj => by have e : j = W.heap.size := hj; omega))
  rw [H.out.2.2.2.1] at hB0
  have hS0 : OnS w x v0 (MD.k0 3) := ⟨H.out.1.trans (hb0.mono (by have := H.out.2.2.2.1; omega)), H.out.2.1.below hb0 H.out.2.1.lt, H.out.2.2.1.below hb0 H.out.2.2.1.lt, hB0⟩
  have k0 : v0.cell? ⟨w.heap.size, 0, none⟩ = some (.int .i64 3) := cell_below hb0 c0
  have hsw := H.out.2.2.2.1
  clear hB0 hF0 hBz hb0 c0 hW
  have a0 : v0.cell? ⟨w.heap.size, 1, none⟩ = some (.int .i64 x.tx) := hS0.bx.cell 1
  have f0 := hS0.bo.free 1
  obtain ⟨z0, hz0⟩ : ∃ u, v0.cell? ⟨w.heap.size + 2, 1, none⟩ = some u := ⟨_, hS0.bo.cell 1⟩
  obtain ⟨v1, hv1⟩ : ∃ v, v0.setCell ⟨w.heap.size + 2, 1, none⟩ (.int .i64 x.tx) = v := ⟨_, rfl⟩
  have hS1 : OnS w x v1 { MD.k0 3 with tx := x.tx } := by rw [← hv1]; exact hS0.put 1 _ rfl
  have a1 : v1.cell? ⟨w.heap.size, 2, none⟩ = some (.int .i64 x.prev) := hS1.bx.cell 2
  have f1 := hS1.bo.free 2
  obtain ⟨z1, hz1⟩ : ∃ u, v1.cell? ⟨w.heap.size + 2, 2, none⟩ = some u := ⟨_, hS1.bo.cell 2⟩
  obtain ⟨v2, hv2⟩ : ∃ v, v1.setCell ⟨w.heap.size + 2, 2, none⟩ (.int .i64 x.prev) = v := ⟨_, rfl⟩
  have hS2 : OnS w x v2 { MD.k0 3 with tx := x.tx, prev := x.prev } := by rw [← hv2]; exact hS1.put 2 _ rfl
  have a2 : v2.cell? ⟨w.heap.size, 9, none⟩ = some (.int .i64 x.coord) := hS2.bx.cell 9
  have f2 := hS2.bo.free 9
  obtain ⟨z2, hz2⟩ : ∃ u, v2.cell? ⟨w.heap.size + 2, 9, none⟩ = some u := ⟨_, hS2.bo.cell 9⟩
  obtain ⟨v3, hv3⟩ : ∃ v, v2.setCell ⟨w.heap.size + 2, 9, none⟩ (.int .i64 x.coord) = v := ⟨_, rfl⟩
  have hS3 : OnS w x v3 { MD.k0 3 with tx := x.tx, prev := x.prev, coord := x.coord } := by rw [← hv3]; exact hS2.put 9 _ rfl
  have a3 : v3.cell? ⟨w.heap.size, 10, none⟩ = some (.slice x.mA x.mem.length x.mc) := hS3.bx.cell 10
  have f3 := hS3.bo.free 10
  obtain ⟨z3, hz3⟩ : ∃ u, v3.cell? ⟨w.heap.size + 2, 10, none⟩ = some u := ⟨_, hS3.bo.cell 10⟩
  obtain ⟨v4, hv4⟩ : ∃ v, v3.setCell ⟨w.heap.size + 2, 10, none⟩ (.slice x.mA x.mem.length x.mc) = v := ⟨_, rfl⟩
  have hS4 : OnS w x v4 { MD.k0 3 with tx := x.tx, prev := x.prev, coord := x.coord, mem := x.mem, mA := x.mA, mc := x.mc } := by rw [← hv4]; exact hS3.put 10 _ rfl
  have a4 : v4.cell? ⟨w.heap.size, 11, none⟩ = some (.slice x.lA x.locks.length x.lc) := hS4.bx.cell 11
  have f4 := hS4.bo.free 11
  obtain ⟨z4, hz4⟩ : ∃ u, v4.cell? ⟨w.heap.size + 2, 11, none⟩ = some u := ⟨_, hS4.bo.cell 11⟩
  obtain ⟨v5, hv5⟩ : ∃ v, v4.setCell ⟨w.heap.size + 2, 11, none⟩ (.slice x.lA x.locks.length x.lc) = v := ⟨_, rfl⟩
  have hS5 : OnS w x v5 { MD.k0 3 with tx := x.tx, prev := x.prev, coord := x.coord, mem := x.mem, mA := x.mA, mc := x.mc, locks := x.locks, lA := x.lA, lc := x.lc } := by rw [← hv5]; exact hS4.put 11 _ rfl
  have HS := Lib.hid hS5
  have hbo := HS.out.bo
  have hbr := HS.out.br
  clear hS0 hS1 hS2 hS3 hS4 hS5
  go_wp2_with (first | (refine wpList_load_rec' _ (by rfl) (by rfl) (by rfl) hbo ?_) | (refine wpList_store_rec (only3 x) (by rfl) _ _ (by rfl) (by rfl) (by rfl) hbr (by rfl) ?_; intro v9 hB9 hF9 hS9; have H9 := Lib.hid (And.intro hB9 (And.intro hF9 hS9)); clear hB9 hF9 hS9))
  refine bodyPost_ret (only_results H9.out.1 rfl) rfl ⟨rfl, HS.out.hb.trans (H9.out.2.1.below HS.out.hb.size (fun j hj => by have e : j = w.heap.size + 1 := hj; omega))⟩
set_option maxHeartbeats 8000000 in
theorem fonly4 (x : MD) (w : World) (hk : x.kind = 4) : Calls Try.prog 36 #[mVal x] w fun e w' => e = .returned (mVal (only4 x)) ∧ Below w.heap.size w w' := by
  obtain ⟨W, hW, hsz, hb, hx, hz⟩ := on0 w x
  have c0 : W.cell? ⟨w.heap.size, 0, none⟩ = some (.int .i64 4) := (hx.cell 0).trans (by show some (Value.int .i64 x.kind) = _; rw [hk])
  have hBz : Blk (W.alloc (.cells #[.int .i64 0, .int .i64 0, .int .i64 0, .int .i64 0, .string ⟨#[]⟩, .bool false, .string ⟨#[]⟩, .bool false, .string ⟨#[]⟩, .int .i64 0, .slice none 0 0, .slice none 0 0, .slice none 0 0, .slice none 0 0, .slice none 0 0, .slice none 0 0] 30)) W.heap.size 30 (mCells (MD.k0 0)) := Blk.new _ _ _
  have H := Lib.hid (And.intro hb (And.intro hx (And.intro hz (And.intro hsz hk))))
  clear hb hx hz hsz hk
  go_enter Try.func36, Try.ntmps36
  go_upto_region 2 with (refine wpList_store_rec (MD.k0 4) (by rfl) _ _ (by rfl) (by rfl) (by rfl) hBz (by rfl) ?_; intro v0 hB0 hF0 hS0)
  have hb0 : Below W.heap.size W v0 := ((Below.refl _ W).alloc (Nat.le_refl _) _).trans (hF0.below (by simp) (fun j hj => by have e : j = W.heap.size := hj; omega))
  rw [H.out.2.2.2.1] at hB0
  have hS0 : OnS w x v0 (MD.k0 4) := ⟨H.out.1.trans (hb0.mono (by have := H.out.2.2.2.1; omega)), H.out.2.1.below hb0 H.out.2.1.lt, H.out.2.2.1.below hb0 H.out.2.2.1.lt, hB0⟩
  have k0 : v0.cell? ⟨w.heap.size, 0, none⟩ = some (.int .i64 4) := cell_below hb0 c0
  have hsw := H.out.2.2.2.1
  clear hB0 hF0 hBz hb0 c0 hW
  have a0 : v0.cell? ⟨w.heap.size, 1, none⟩ = some (.int .i64 x.tx) := hS0.bx.cell 1
  have f0 := hS0.bo.free 1
  obtain ⟨z0, hz0⟩ : ∃ u, v0.cell? ⟨w.heap.size + 2, 1, none⟩ = some u := ⟨_, hS0.bo.cell 1⟩
  obtain ⟨v1, hv1⟩ : ∃ v, v0.setCell ⟨w.heap.size + 2, 1, none⟩ (.int .i64 x.tx) = v := ⟨_, rfl⟩
  have hS1 : OnS w x v1 { MD.k0 4 with tx := x.tx } := by rw [← hv1]; exact hS0.put 1 _ rfl
  have a1 : v1.cell? ⟨w.heap.size, 2, none⟩ = some (.int .i64 x.prev) := hS1.bx.cell 2
  have f1 := hS1.bo.free 2
  obtain ⟨z1, hz1⟩ : ∃ u, v1.cell? ⟨w.heap.size + 2, 2, none⟩ = some u := ⟨_, hS1.bo.cell 2⟩
  obtain ⟨v2, hv2⟩ : ∃ v, v1.setCell ⟨w.heap.size + 2, 2, none⟩ (.int .i64 x.prev) = v := ⟨_, rfl⟩
  have hS2 : OnS w x v2 { MD.k0 4 with tx := x.tx, prev := x.prev } := by rw [← hv2]; exact hS1.put 2 _ rfl
  have HS := Lib.hid hS2
  have hbo := HS.out.bo
  have hbr := HS.out.br
  clear hS0 hS1 hS2
  go_wp2_with (first | (refine wpList_load_rec' _ (by rfl) (by rfl) (by rfl) hbo ?_) | (refine wpList_store_rec (only4 x) (by rfl) _ _ (by rfl) (by rfl) (by rfl) hbr (by rfl) ?_; intro v9 hB9 hF9 hS9; have H9 := Lib.hid (And.intro hB9 (And.intro hF9 hS9)); clear hB9 hF9 hS9))
  refine bodyPost_ret (only_results H9.out.1 rfl) rfl ⟨rfl, HS.out.hb.trans (H9.out.2.1.below HS.out.hb.size (fun j hj => by have e : j = w.heap.size + 1 := hj; omega))⟩
set_option maxHeartbeats 8000000 in
theorem fonly5 (x : MD) (w : World) (hk : x.kind = 5) : Calls Try.prog 36 #[mVal x] w fun e w' => e = .returned (mVal (only5 x)) ∧ Below w.heap.size w w' := by
  obtain ⟨W, hW, hsz, hb, hx, hz⟩ := on0 w x
  have c0 : W.cell? ⟨w.heap.size, 0, none⟩ = some (.int .i64 5) := (hx.cell 0).trans (by show some (Value.int .i64 x.kind) = _; rw [hk])
  have hBz : Blk (W.alloc (.cells #[.int .i64 0, .int .i64 0, .int .i64 0, .int .i64 0, .string ⟨#[]⟩, .bool false, .string ⟨#[]⟩, .bool false, .string ⟨#[]⟩, .int .i64 0, .slice none 0 0, .slice none 0 0, .slice none 0 0, .slice none 0 0, .slice none 0 0, .slice none 0 0] 30)) W.heap.size 30 (mCells (MD.k0 0)) := Blk.new _ _ _
  have H := Lib.hid (And.intro hb (And.intro hx (And.intro hz (And.intro hsz hk))))
  clear hb hx hz hsz hk
  go_enter Try.func36, Try.ntmps36
  go_upto_region 2 with (refine wpList_store_rec (MD.k0 5) (by rfl) _ _ (by rfl) (by rfl) (by rfl) hBz (by rfl) ?_; intro v0 hB0 hF0 hS0)
  have hb0 : Below W.heap.size W v0 := ((Below.refl _ W).alloc (Nat.le_refl _) _).trans (hF0.below (by simp) (fun j hj => by have e : j = W.heap.size := hj; omega))
  rw [H.out.2.2.2.1] at hB0
  have hS0 : OnS w x v0 (MD.k0 5) := ⟨H.out.1.trans (hb0.mono (by have := H.out.2.2.2.1; omega)), H.out.2.1.below hb0 H.out.2.1.lt, H.out.2.2.1.below hb0 H.out.2.2.1.lt, hB0⟩
  have k0 : v0.cell? ⟨w.heap.size, 0, none⟩ = some (.int .i64 5) := cell_below hb0 c0
  have hsw := H.out.2.2.2.1
  clear hB0 hF0 hBz hb0 c0 hW
  have a0 : v0.cell? ⟨w.heap.size, 1, none⟩ = some (.int .i64 x.tx) := hS0.bx.cell 1
  have f0 := hS0.bo.free 1
  obtain ⟨z0, hz0⟩ : ∃ u, v0.cell? ⟨w.heap.size + 2, 1, none⟩ = some u := ⟨_, hS0.bo.cell 1⟩
  obtain ⟨v1, hv1⟩ : ∃ v, v0.setCell ⟨w.heap.size + 2, 1, none⟩ (.int .i64 x.tx) = v := ⟨_, rfl⟩
  have hS1 : OnS w x v1 { MD.k0 5 with tx := x.tx } := by rw [← hv1]; exact hS0.put 1 _ rfl
  have a1 : v1.cell? ⟨w.heap.size, 2, none⟩ = some (.int .i64 x.prev) := hS1.bx.cell 2
  have f1 := hS1.bo.free 2
  obtain ⟨z1, hz1⟩ : ∃ u, v1.cell? ⟨w.heap.size + 2, 2, none⟩ = some u := ⟨_, hS1.bo.cell 2⟩
  obtain ⟨v2, hv2⟩ : ∃ v, v1.setCell ⟨w.heap.size + 2, 2, none⟩ (.int .i64 x.prev) = v := ⟨_, rfl⟩
  have hS2 : OnS w x v2 { MD.k0 5 with tx := x.tx, prev := x.prev } := by rw [← hv2]; exact hS1.put 2 _ rfl
  have HS := Lib.hid hS2
  have hbo := HS.out.bo
  have hbr := HS.out.br
  clear hS0 hS1 hS2
  go_wp2_with (first | (refine wpList_load_rec' _ (by rfl) (by rfl) (by rfl) hbo ?_) | (refine wpList_store_rec (only5 x) (by rfl) _ _ (by rfl) (by rfl) (by rfl) hbr (by rfl) ?_; intro v9 hB9 hF9 hS9; have H9 := Lib.hid (And.intro hB9 (And.intro hF9 hS9)); clear hB9 hF9 hS9))
  refine bodyPost_ret (only_results H9.out.1 rfl) rfl ⟨rfl, HS.out.hb.trans (H9.out.2.1.below HS.out.hb.size (fun j hj => by have e : j = w.heap.size + 1 := hj; omega))⟩
set_option maxHeartbeats 8000000 in
theorem fonly6 (x : MD) (w : World) (hk : x.kind = 6) : Calls Try.prog 36 #[mVal x] w fun e w' => e = .returned (mVal (only6 x)) ∧ Below w.heap.size w w' := by
  obtain ⟨W, hW, hsz, hb, hx, hz⟩ := on0 w x
  have c0 : W.cell? ⟨w.heap.size, 0, none⟩ = some (.int .i64 6) := (hx.cell 0).trans (by show some (Value.int .i64 x.kind) = _; rw [hk])
  have hBz : Blk (W.alloc (.cells #[.int .i64 0, .int .i64 0, .int .i64 0, .int .i64 0, .string ⟨#[]⟩, .bool false, .string ⟨#[]⟩, .bool false, .string ⟨#[]⟩, .int .i64 0, .slice none 0 0, .slice none 0 0, .slice none 0 0, .slice none 0 0, .slice none 0 0, .slice none 0 0] 30)) W.heap.size 30 (mCells (MD.k0 0)) := Blk.new _ _ _
  have H := Lib.hid (And.intro hb (And.intro hx (And.intro hz (And.intro hsz hk))))
  clear hb hx hz hsz hk
  go_enter Try.func36, Try.ntmps36
  go_upto_region 2 with (refine wpList_store_rec (MD.k0 6) (by rfl) _ _ (by rfl) (by rfl) (by rfl) hBz (by rfl) ?_; intro v0 hB0 hF0 hS0)
  have hb0 : Below W.heap.size W v0 := ((Below.refl _ W).alloc (Nat.le_refl _) _).trans (hF0.below (by simp) (fun j hj => by have e : j = W.heap.size := hj; omega))
  rw [H.out.2.2.2.1] at hB0
  have hS0 : OnS w x v0 (MD.k0 6) := ⟨H.out.1.trans (hb0.mono (by have := H.out.2.2.2.1; omega)), H.out.2.1.below hb0 H.out.2.1.lt, H.out.2.2.1.below hb0 H.out.2.2.1.lt, hB0⟩
  have k0 : v0.cell? ⟨w.heap.size, 0, none⟩ = some (.int .i64 6) := cell_below hb0 c0
  have hsw := H.out.2.2.2.1
  clear hB0 hF0 hBz hb0 c0 hW
  have a0 : v0.cell? ⟨w.heap.size, 1, none⟩ = some (.int .i64 x.tx) := hS0.bx.cell 1
  have f0 := hS0.bo.free 1
  obtain ⟨z0, hz0⟩ : ∃ u, v0.cell? ⟨w.heap.size + 2, 1, none⟩ = some u := ⟨_, hS0.bo.cell 1⟩
  obtain ⟨v1, hv1⟩ : ∃ v, v0.setCell ⟨w.heap.size + 2, 1, none⟩ (.int .i64 x.tx) = v := ⟨_, rfl⟩
  have hS1 : OnS w x v1 { MD.k0 6 with tx := x.tx } := by rw [← hv1]; exact hS0.put 1 _ rfl
  have a1 : v1.cell? ⟨w.heap.size, 2, none⟩ = some (.int .i64 x.prev) := hS1.bx.cell 2
  have f1 := hS1.bo.free 2
  obtain ⟨z1, hz1⟩ : ∃ u, v1.cell? ⟨w.heap.size + 2, 2, none⟩ = some u := ⟨_, hS1.bo.cell 2⟩
  obtain ⟨v2, hv2⟩ : ∃ v, v1.setCell ⟨w.heap.size + 2, 2, none⟩ (.int .i64 x.prev) = v := ⟨_, rfl⟩
  have hS2 : OnS w x v2 { MD.k0 6 with tx := x.tx, prev := x.prev } := by rw [← hv2]; exact hS1.put 2 _ rfl
  have HS := Lib.hid hS2
  have hbo := HS.out.bo
  have hbr := HS.out.br
  clear hS0 hS1 hS2
  go_wp2_with (first | (refine wpList_load_rec' _ (by rfl) (by rfl) (by rfl) hbo ?_) | (refine wpList_store_rec (only6 x) (by rfl) _ _ (by rfl) (by rfl) (by rfl) hbr (by rfl) ?_; intro v9 hB9 hF9 hS9; have H9 := Lib.hid (And.intro hB9 (And.intro hF9 hS9)); clear hB9 hF9 hS9))
  refine bodyPost_ret (only_results H9.out.1 rfl) rfl ⟨rfl, HS.out.hb.trans (H9.out.2.1.below HS.out.hb.size (fun j hj => by have e : j = w.heap.size + 1 := hj; omega))⟩
set_option maxHeartbeats 8000000 in
theorem fonly7 (x : MD) (w : World) (hk : x.kind = 7) : Calls Try.prog 36 #[mVal x] w fun e w' => e = .returned (mVal (only7 x)) ∧ Below w.heap.size w w' := by
  obtain ⟨W, hW, hsz, hb, hx, hz⟩ := on0 w x
  have c0 : W.cell? ⟨w.heap.size, 0, none⟩ = some (.int .i64 7) := (hx.cell 0).trans (by show some (Value.int .i64 x.kind) = _; rw [hk])
  have hBz : Blk (W.alloc (.cells #[.int .i64 0, .int .i64 0, .int .i64 0, .int .i64 0, .string ⟨#[]⟩, .bool false, .string ⟨#[]⟩, .bool false, .string ⟨#[]⟩, .int .i64 0, .slice none 0 0, .slice none 0 0, .slice none 0 0, .slice none 0 0, .slice none 0 0, .slice none 0 0] 30)) W.heap.size 30 (mCells (MD.k0 0)) := Blk.new _ _ _
  have H := Lib.hid (And.intro hb (And.intro hx (And.intro hz (And.intro hsz hk))))
  clear hb hx hz hsz hk
  go_enter Try.func36, Try.ntmps36
  go_upto_region 2 with (refine wpList_store_rec (MD.k0 7) (by rfl) _ _ (by rfl) (by rfl) (by rfl) hBz (by rfl) ?_; intro v0 hB0 hF0 hS0)
  have hb0 : Below W.heap.size W v0 := ((Below.refl _ W).alloc (Nat.le_refl _) _).trans (hF0.below (by simp) (fun j hj => by have e : j = W.heap.size := hj; omega))
  rw [H.out.2.2.2.1] at hB0
  have hS0 : OnS w x v0 (MD.k0 7) := ⟨H.out.1.trans (hb0.mono (by have := H.out.2.2.2.1; omega)), H.out.2.1.below hb0 H.out.2.1.lt, H.out.2.2.1.below hb0 H.out.2.2.1.lt, hB0⟩
  have k0 : v0.cell? ⟨w.heap.size, 0, none⟩ = some (.int .i64 7) := cell_below hb0 c0
  have hsw := H.out.2.2.2.1
  clear hB0 hF0 hBz hb0 c0 hW
  have HS := Lib.hid hS0
  have hbo := HS.out.bo
  have hbr := HS.out.br
  clear hS0
  go_wp2_with (first | (refine wpList_load_rec' _ (by rfl) (by rfl) (by rfl) hbo ?_) | (refine wpList_store_rec (only7 x) (by rfl) _ _ (by rfl) (by rfl) (by rfl) hbr (by rfl) ?_; intro v9 hB9 hF9 hS9; have H9 := Lib.hid (And.intro hB9 (And.intro hF9 hS9)); clear hB9 hF9 hS9))
  refine bodyPost_ret (only_results H9.out.1 rfl) rfl ⟨rfl, HS.out.hb.trans (H9.out.2.1.below HS.out.hb.size (fun j hj => by have e : j = w.heap.size + 1 := hj; omega))⟩
set_option maxHeartbeats 8000000 in
theorem fonly8 (x : MD) (w : World) (hk : x.kind = 8) : Calls Try.prog 36 #[mVal x] w fun e w' => e = .returned (mVal (only8 x)) ∧ Below w.heap.size w w' := by
  obtain ⟨W, hW, hsz, hb, hx, hz⟩ := on0 w x
  have c0 : W.cell? ⟨w.heap.size, 0, none⟩ = some (.int .i64 8) := (hx.cell 0).trans (by show some (Value.int .i64 x.kind) = _; rw [hk])
  have hBz : Blk (W.alloc (.cells #[.int .i64 0, .int .i64 0, .int .i64 0, .int .i64 0, .string ⟨#[]⟩, .bool false, .string ⟨#[]⟩, .bool false, .string ⟨#[]⟩, .int .i64 0, .slice none 0 0, .slice none 0 0, .slice none 0 0, .slice none 0 0, .slice none 0 0, .slice none 0 0] 30)) W.heap.size 30 (mCells (MD.k0 0)) := Blk.new _ _ _
  have H := Lib.hid (And.intro hb (And.intro hx (And.intro hz (And.intro hsz hk))))
  clear hb hx hz hsz hk
  go_enter Try.func36, Try.ntmps36
  go_upto_region 2 with (refine wpList_store_rec (MD.k0 8) (by rfl) _ _ (by rfl) (by rfl) (by rfl) hBz (by rfl) ?_; intro v0 hB0 hF0 hS0)
  have hb0 : Below W.heap.size W v0 := ((Below.refl _ W).alloc (Nat.le_refl _) _).trans (hF0.below (by simp) (fun j hj => by have e : j = W.heap.size := hj; omega))
  rw [H.out.2.2.2.1] at hB0
  have hS0 : OnS w x v0 (MD.k0 8) := ⟨H.out.1.trans (hb0.mono (by have := H.out.2.2.2.1; omega)), H.out.2.1.below hb0 H.out.2.1.lt, H.out.2.2.1.below hb0 H.out.2.2.1.lt, hB0⟩
  have k0 : v0.cell? ⟨w.heap.size, 0, none⟩ = some (.int .i64 8) := cell_below hb0 c0
  have hsw := H.out.2.2.2.1
  clear hB0 hF0 hBz hb0 c0 hW
  have a0 : v0.cell? ⟨w.heap.size, 12, none⟩ = some (.slice x.rA x.rows.length x.rc) := hS0.bx.cell 12
  have f0 := hS0.bo.free 12
  obtain ⟨z0, hz0⟩ : ∃ u, v0.cell? ⟨w.heap.size + 2, 12, none⟩ = some u := ⟨_, hS0.bo.cell 12⟩
  obtain ⟨v1, hv1⟩ : ∃ v, v0.setCell ⟨w.heap.size + 2, 12, none⟩ (.slice x.rA x.rows.length x.rc) = v := ⟨_, rfl⟩
  have hS1 : OnS w x v1 { MD.k0 8 with rows := x.rows, rA := x.rA, rc := x.rc } := by rw [← hv1]; exact hS0.put 12 _ rfl
  have a1 : v1.cell? ⟨w.heap.size, 13, none⟩ = some (.slice x.dA x.dirty.length x.dc) := hS1.bx.cell 13
  have f1 := hS1.bo.free 13
  obtain ⟨z1, hz1⟩ : ∃ u, v1.cell? ⟨w.heap.size + 2, 13, none⟩ = some u := ⟨_, hS1.bo.cell 13⟩
  obtain ⟨v2, hv2⟩ : ∃ v, v1.setCell ⟨w.heap.size + 2, 13, none⟩ (.slice x.dA x.dirty.length x.dc) = v := ⟨_, rfl⟩
  have hS2 : OnS w x v2 { MD.k0 8 with rows := x.rows, rA := x.rA, rc := x.rc, dirty := x.dirty, dA := x.dA, dc := x.dc } := by rw [← hv2]; exact hS1.put 13 _ rfl
  have a2 : v2.cell? ⟨w.heap.size, 14, none⟩ = some (.slice x.eA x.deeds.length x.ec) := hS2.bx.cell 14
  have f2 := hS2.bo.free 14
  obtain ⟨z2, hz2⟩ : ∃ u, v2.cell? ⟨w.heap.size + 2, 14, none⟩ = some u := ⟨_, hS2.bo.cell 14⟩
  obtain ⟨v3, hv3⟩ : ∃ v, v2.setCell ⟨w.heap.size + 2, 14, none⟩ (.slice x.eA x.deeds.length x.ec) = v := ⟨_, rfl⟩
  have hS3 : OnS w x v3 { MD.k0 8 with rows := x.rows, rA := x.rA, rc := x.rc, dirty := x.dirty, dA := x.dA, dc := x.dc, deeds := x.deeds, eA := x.eA, ec := x.ec } := by rw [← hv3]; exact hS2.put 14 _ rfl
  have a3 : v3.cell? ⟨w.heap.size, 15, none⟩ = some (.slice x.pA x.past.length x.pc) := hS3.bx.cell 15
  have f3 := hS3.bo.free 15
  obtain ⟨z3, hz3⟩ : ∃ u, v3.cell? ⟨w.heap.size + 2, 15, none⟩ = some u := ⟨_, hS3.bo.cell 15⟩
  obtain ⟨v4, hv4⟩ : ∃ v, v3.setCell ⟨w.heap.size + 2, 15, none⟩ (.slice x.pA x.past.length x.pc) = v := ⟨_, rfl⟩
  have hS4 : OnS w x v4 { MD.k0 8 with rows := x.rows, rA := x.rA, rc := x.rc, dirty := x.dirty, dA := x.dA, dc := x.dc, deeds := x.deeds, eA := x.eA, ec := x.ec, past := x.past, pA := x.pA, pc := x.pc } := by rw [← hv4]; exact hS3.put 15 _ rfl
  have HS := Lib.hid hS4
  have hbo := HS.out.bo
  have hbr := HS.out.br
  clear hS0 hS1 hS2 hS3 hS4
  go_wp2_with (first | (refine wpList_load_rec' _ (by rfl) (by rfl) (by rfl) hbo ?_) | (refine wpList_store_rec (only8 x) (by rfl) _ _ (by rfl) (by rfl) (by rfl) hbr (by rfl) ?_; intro v9 hB9 hF9 hS9; have H9 := Lib.hid (And.intro hB9 (And.intro hF9 hS9)); clear hB9 hF9 hS9))
  refine bodyPost_ret (only_results H9.out.1 rfl) rfl ⟨rfl, HS.out.hb.trans (H9.out.2.1.below HS.out.hb.size (fun j hj => by have e : j = w.heap.size + 1 := hj; omega))⟩
set_option maxHeartbeats 8000000 in
theorem fonly9 (x : MD) (w : World) (hk : x.kind = 9) : Calls Try.prog 36 #[mVal x] w fun e w' => e = .returned (mVal (only9 x)) ∧ Below w.heap.size w w' := by
  obtain ⟨W, hW, hsz, hb, hx, hz⟩ := on0 w x
  have c0 : W.cell? ⟨w.heap.size, 0, none⟩ = some (.int .i64 9) := (hx.cell 0).trans (by show some (Value.int .i64 x.kind) = _; rw [hk])
  have hBz : Blk (W.alloc (.cells #[.int .i64 0, .int .i64 0, .int .i64 0, .int .i64 0, .string ⟨#[]⟩, .bool false, .string ⟨#[]⟩, .bool false, .string ⟨#[]⟩, .int .i64 0, .slice none 0 0, .slice none 0 0, .slice none 0 0, .slice none 0 0, .slice none 0 0, .slice none 0 0] 30)) W.heap.size 30 (mCells (MD.k0 0)) := Blk.new _ _ _
  have H := Lib.hid (And.intro hb (And.intro hx (And.intro hz (And.intro hsz hk))))
  clear hb hx hz hsz hk
  go_enter Try.func36, Try.ntmps36
  go_upto_region 2 with (refine wpList_store_rec (MD.k0 9) (by rfl) _ _ (by rfl) (by rfl) (by rfl) hBz (by rfl) ?_; intro v0 hB0 hF0 hS0)
  have hb0 : Below W.heap.size W v0 := ((Below.refl _ W).alloc (Nat.le_refl _) _).trans (hF0.below (by simp) (fun j hj => by have e : j = W.heap.size := hj; omega))
  rw [H.out.2.2.2.1] at hB0
  have hS0 : OnS w x v0 (MD.k0 9) := ⟨H.out.1.trans (hb0.mono (by have := H.out.2.2.2.1; omega)), H.out.2.1.below hb0 H.out.2.1.lt, H.out.2.2.1.below hb0 H.out.2.2.1.lt, hB0⟩
  have k0 : v0.cell? ⟨w.heap.size, 0, none⟩ = some (.int .i64 9) := cell_below hb0 c0
  have hsw := H.out.2.2.2.1
  clear hB0 hF0 hBz hb0 c0 hW
  have a0 : v0.cell? ⟨w.heap.size, 1, none⟩ = some (.int .i64 x.tx) := hS0.bx.cell 1
  have f0 := hS0.bo.free 1
  obtain ⟨z0, hz0⟩ : ∃ u, v0.cell? ⟨w.heap.size + 2, 1, none⟩ = some u := ⟨_, hS0.bo.cell 1⟩
  obtain ⟨v1, hv1⟩ : ∃ v, v0.setCell ⟨w.heap.size + 2, 1, none⟩ (.int .i64 x.tx) = v := ⟨_, rfl⟩
  have hS1 : OnS w x v1 { MD.k0 9 with tx := x.tx } := by rw [← hv1]; exact hS0.put 1 _ rfl
  have a1 : v1.cell? ⟨w.heap.size, 10, none⟩ = some (.slice x.mA x.mem.length x.mc) := hS1.bx.cell 10
  have f1 := hS1.bo.free 10
  obtain ⟨z1, hz1⟩ : ∃ u, v1.cell? ⟨w.heap.size + 2, 10, none⟩ = some u := ⟨_, hS1.bo.cell 10⟩
  obtain ⟨v2, hv2⟩ : ∃ v, v1.setCell ⟨w.heap.size + 2, 10, none⟩ (.slice x.mA x.mem.length x.mc) = v := ⟨_, rfl⟩
  have hS2 : OnS w x v2 { MD.k0 9 with tx := x.tx, mem := x.mem, mA := x.mA, mc := x.mc } := by rw [← hv2]; exact hS1.put 10 _ rfl
  have HS := Lib.hid hS2
  have hbo := HS.out.bo
  have hbr := HS.out.br
  clear hS0 hS1 hS2
  go_wp2_with (first | (refine wpList_load_rec' _ (by rfl) (by rfl) (by rfl) hbo ?_) | (refine wpList_store_rec (only9 x) (by rfl) _ _ (by rfl) (by rfl) (by rfl) hbr (by rfl) ?_; intro v9 hB9 hF9 hS9; have H9 := Lib.hid (And.intro hB9 (And.intro hF9 hS9)); clear hB9 hF9 hS9))
  refine bodyPost_ret (only_results H9.out.1 rfl) rfl ⟨rfl, HS.out.hb.trans (H9.out.2.1.below HS.out.hb.size (fun j hj => by have e : j = w.heap.size + 1 := hj; omega))⟩
set_option maxHeartbeats 8000000 in
theorem fonly10 (x : MD) (w : World) (hk : x.kind = 10) : Calls Try.prog 36 #[mVal x] w fun e w' => e = .returned (mVal (only10 x)) ∧ Below w.heap.size w w' := by
  obtain ⟨W, hW, hsz, hb, hx, hz⟩ := on0 w x
  have c0 : W.cell? ⟨w.heap.size, 0, none⟩ = some (.int .i64 10) := (hx.cell 0).trans (by show some (Value.int .i64 x.kind) = _; rw [hk])
  have hBz : Blk (W.alloc (.cells #[.int .i64 0, .int .i64 0, .int .i64 0, .int .i64 0, .string ⟨#[]⟩, .bool false, .string ⟨#[]⟩, .bool false, .string ⟨#[]⟩, .int .i64 0, .slice none 0 0, .slice none 0 0, .slice none 0 0, .slice none 0 0, .slice none 0 0, .slice none 0 0] 30)) W.heap.size 30 (mCells (MD.k0 0)) := Blk.new _ _ _
  have H := Lib.hid (And.intro hb (And.intro hx (And.intro hz (And.intro hsz hk))))
  clear hb hx hz hsz hk
  go_enter Try.func36, Try.ntmps36
  go_upto_region 2 with (refine wpList_store_rec (MD.k0 10) (by rfl) _ _ (by rfl) (by rfl) (by rfl) hBz (by rfl) ?_; intro v0 hB0 hF0 hS0)
  have hb0 : Below W.heap.size W v0 := ((Below.refl _ W).alloc (Nat.le_refl _) _).trans (hF0.below (by simp) (fun j hj => by have e : j = W.heap.size := hj; omega))
  rw [H.out.2.2.2.1] at hB0
  have hS0 : OnS w x v0 (MD.k0 10) := ⟨H.out.1.trans (hb0.mono (by have := H.out.2.2.2.1; omega)), H.out.2.1.below hb0 H.out.2.1.lt, H.out.2.2.1.below hb0 H.out.2.2.1.lt, hB0⟩
  have k0 : v0.cell? ⟨w.heap.size, 0, none⟩ = some (.int .i64 10) := cell_below hb0 c0
  have hsw := H.out.2.2.2.1
  clear hB0 hF0 hBz hb0 c0 hW
  have a0 : v0.cell? ⟨w.heap.size, 1, none⟩ = some (.int .i64 x.tx) := hS0.bx.cell 1
  have f0 := hS0.bo.free 1
  obtain ⟨z0, hz0⟩ : ∃ u, v0.cell? ⟨w.heap.size + 2, 1, none⟩ = some u := ⟨_, hS0.bo.cell 1⟩
  obtain ⟨v1, hv1⟩ : ∃ v, v0.setCell ⟨w.heap.size + 2, 1, none⟩ (.int .i64 x.tx) = v := ⟨_, rfl⟩
  have hS1 : OnS w x v1 { MD.k0 10 with tx := x.tx } := by rw [← hv1]; exact hS0.put 1 _ rfl
  have HS := Lib.hid hS1
  have hbo := HS.out.bo
  have hbr := HS.out.br
  clear hS0 hS1
  go_wp2_with (first | (refine wpList_load_rec' _ (by rfl) (by rfl) (by rfl) hbo ?_) | (refine wpList_store_rec (only10 x) (by rfl) _ _ (by rfl) (by rfl) (by rfl) hbr (by rfl) ?_; intro v9 hB9 hF9 hS9; have H9 := Lib.hid (And.intro hB9 (And.intro hF9 hS9)); clear hB9 hF9 hS9))
  refine bodyPost_ret (only_results H9.out.1 rfl) rfl ⟨rfl, HS.out.hb.trans (H9.out.2.1.below HS.out.hb.size (fun j hj => by have e : j = w.heap.size + 1 := hj; omega))⟩
end Go.Proofs.Ytlijfnekopjogaa
