/- SlotCrashes: pages that are saved with one turn more each time: wherever the power goes, whatever was torn, what is loaded of each page is what was saved last and answered OK, or what was under way; no condition. -/
import Derived.Test.YtfcmlfcpgboigaaSlotFall
import Derived.Test.YtfcmlfcpgboigaaPageCopy
import Derived.Test.YtfcmlfcpgboigaaPageOpen
import Derived.Test.YtfcmlfcpgboigaaLift
import Derived.Deep.LoopGhost
import Derived.Deep.DeepCutAuto
import Derived.Deep.RegionHeld3
import Derived.Deep.DeepMust
namespace Go.Proofs.Ytfcmlfcpgboigaa.slotCrashes
open Go.ChangeShapes Go.WideShapes Go.ChangeAt Go.RowKit Mem Lift
set_option linter.unusedVariables false
set_option linter.unusedSimpArgs false
set_option maxRecDepth 100000

theorem list3 {α : Type} {cs : List α} (h : cs.length = 3) : ∃ a b c, cs = [a, b, c] := by
  match cs, h with
  | [a, b, c], _ => exact ⟨a, b, c, rfl⟩
section
variable {H : Type} {enc : TypeId × Value → H} {W : World}
theorem crash_cells {cs : List Value} (h : Rd enc Try.prog W 69 cs) : ∃ AK nk ck torn cut ks, cs = [.slice AK nk ck, .bool torn, .int .i64 cut] ∧ IS W AK nk ks ∧ nk ≤ ck ∧ ck ≤ maxLen ∧ -9223372036854775808 ≤ cut ∧ cut ≤ 9223372036854775807 := by
  obtain ⟨hl, hf⟩ := h.struct Try.underlying69
  rw [show Try.prog.cellsOf 69 = 3 by kernel_rfl] at hl
  obtain ⟨a, b, c, rfl⟩ := list3 hl
  · skip
    have h0 : Rd enc Try.prog W 67 [a] := by
      have y : Rd enc Try.prog W 67 ((([a, b, c] : List Value).drop 0).take (Try.prog.cellsOf 67)) := hf 0 _ rfl
      rw [show Try.prog.cellsOf 67 = 1 by kernel_rfl] at y
      exact y
    have h1 : Rd enc Try.prog W 4 [b] := by
      have y : Rd enc Try.prog W 4 ((([a, b, c] : List Value).drop 1).take (Try.prog.cellsOf 4)) := hf 1 _ rfl
      rw [show Try.prog.cellsOf 4 = 1 by kernel_rfl] at y
      exact y
    have h2 : Rd enc Try.prog W 3 [c] := by
      have y : Rd enc Try.prog W 3 ((([a, b, c] : List Value).drop 2).take (Try.prog.cellsOf 3)) := hf 2 _ rfl
      rw [show Try.prog.cellsOf 3 = 1 by kernel_rfl] at y
      exact y
    obtain ⟨AK, nk, ck, e0, hs⟩ := h0.slice Try.underlying67 (by rw [show Try.prog.cellsOf 3 = 1 by kernel_rfl]; omega)
    obtain ⟨torn, e1⟩ := h1.bool Try.underlying4
    obtain ⟨cut, e2, hw⟩ := h2.int Try.underlying3
    simp only [List.cons.injEq, and_true] at e0 e1 e2
    subst e0 e1 e2
    obtain ⟨ks, hk, _⟩ := hs.ints Try.underlying3 (by kernel_rfl)
    have hb := bounds_i64 hw
    exact ⟨AK, nk, ck, torn, cut, ks, rfl, hk, hs.1, hs.2.1, hb.1, hb.2⟩
end
/-- what is to be done -/
structure SavedS where
  N : Int
  lsn : Int
  pA : Option Addr
  pn : Nat
  pc : Nat
  cells : List Pg.C
  fuse : Int
  kA : Option Addr
  kn : Nat
  kc : Nat
  keep : List Int
  torn : Bool
  cut : Int
abbrev sCells (x : SavedS) : Array Value := #[.int .i64 x.N, .int .i64 x.lsn, .slice x.pA x.pn x.pc, .int .i64 x.fuse, .slice x.kA x.kn x.kc, .bool x.torn, .int .i64 x.cut]
def savedK : Kind_ SavedS where
  zero := ⟨0, 0, none, 0, 0, [], 0, none, 0, 0, [], false, 0⟩
  k := 7
  cells := fun x => [.int .i64 x.N, .int .i64 x.lsn, .slice x.pA x.pn x.pc, .int .i64 x.fuse, .slice x.kA x.kn x.kc, .bool x.torn, .int .i64 x.cut]
  ok := fun w x => ((-9223372036854775808 ≤ x.N ∧ x.N ≤ 9223372036854775807) ∧ (-9223372036854775808 ≤ x.lsn ∧ x.lsn ≤ 9223372036854775807) ∧ (-9223372036854775808 ≤ x.fuse ∧ x.fuse ≤ 9223372036854775807)) ∧ ST cellK w x.pA x.pn x.cells ∧ IS w x.kA x.kn x.keep ∧ x.kn ≤ x.kc ∧ x.kc ≤ 9223372036854775807 ∧ x.pn ≤ x.pc ∧ x.pc ≤ 9223372036854775807
  keep := fun h hb => ⟨h.1, h.2.1.below hb, h.2.2.1.below hb, h.2.2.2⟩
theorem saved_cells {H : Type} {enc : TypeId × Value → H} {W : World} (cs : List Value) (h : Rd enc Try.prog W 91 cs) : ∃ x : SavedS, cs = savedK.cells x ∧ savedK.ok W x := by
  obtain ⟨hl, hf⟩ := h.struct Try.underlying91
  rw [show Try.prog.cellsOf 91 = 7 by kernel_rfl] at hl
  match cs, hl with
  | [a0, a1, a2, a3, a4, a5, a6], _ =>
    have h0 : Rd enc Try.prog W 3 [a0] := by
      have y : Rd enc Try.prog W 3 ((([a0, a1, a2, a3, a4, a5, a6] : List Value).drop 0).take (Try.prog.cellsOf 3)) := hf 0 _ rfl
      rw [show Try.prog.cellsOf 3 = 1 by kernel_rfl] at y
      exact y
    have h1 : Rd enc Try.prog W 24 [a1, a2] := by
      have y : Rd enc Try.prog W 24 ((([a0, a1, a2, a3, a4, a5, a6] : List Value).drop 1).take (Try.prog.cellsOf 24)) := hf 1 _ rfl
      rw [show Try.prog.cellsOf 24 = 2 by kernel_rfl] at y
      exact y
    have h2 : Rd enc Try.prog W 3 [a3] := by
      have y : Rd enc Try.prog W 3 ((([a0, a1, a2, a3, a4, a5, a6] : List Value).drop 3).take (Try.prog.cellsOf 3)) := hf 2 _ rfl
      rw [show Try.prog.cellsOf 3 = 1 by kernel_rfl] at y
      exact y
    have h3 : Rd enc Try.prog W 69 [a4, a5, a6] := by
      have y : Rd enc Try.prog W 69 ((([a0, a1, a2, a3, a4, a5, a6] : List Value).drop 4).take (Try.prog.cellsOf 69)) := hf 3 _ rfl
      rw [show Try.prog.cellsOf 69 = 3 by kernel_rfl] at y
      exact y
    obtain ⟨x0, e0, w0⟩ := h0.int Try.underlying3
    obtain ⟨lsn, A, n, c, l, e1, hb1, hs1, hn1, hc1⟩ := page_cells h1
    obtain ⟨x2, e2, w2⟩ := h2.int Try.underlying3
    obtain ⟨AK, nk, ck, torn, cut, ks, e3, r1, r2, r3, r4⟩ := crash_cells h3
    simp only [List.cons.injEq, and_true] at e0 e1 e2 e3
    obtain ⟨e1, e4⟩ := e1
    obtain ⟨e3, e5, e6⟩ := e3
    subst e0 e1 e2 e3 e4 e5 e6
    exact ⟨⟨x0, lsn, A, n, c, l, x2, AK, nk, ck, ks, torn, cut⟩, rfl, ⟨bounds_i64 w0, hb1, bounds_i64 w2⟩, hs1, r1, r2, r3, hn1, hc1⟩
theorem saved_at {w : World} {A : Option Addr} {n : Nat} {l : List SavedS} (h : ST savedK w A n l) {i : Nat} (hi : i < n) : ∃ b off, A = some ⟨b, off, none⟩ ∧ b < w.heap.size ∧ (∀ j, j < 7 → w.cell? ⟨b, off + i * 7 + j, none⟩ = (savedK.cells (l.getD i savedK.zero))[j]?) ∧ savedK.ok w (l.getD i savedK.zero) := h.at_ hi

/-! what the law keeps of the pages -/
def hvCells (g : Nat → Sp.B) (A : Nat → Option Addr) (c : Nat → Nat) : Array Value := #[.int .i64 (g 0).1, .slice (A 0) (g 0).2.1.length (c 0), .int .i64 (g 1).1, .slice (A 1) (g 1).2.1.length (c 1), .int .i64 (g 2).1, .slice (A 2) (g 2).2.1.length (c 2)]
def tvCells (t : Nat → Int) : Array Value := #[.int .i64 (t 0), .int .i64 (t 1), .int .i64 (t 2)]
def putN {α : Type} (f : Nat → α) (n : Nat) (x : α) : Nat → α := fun m => if m = n then x else f m
theorem putN_same {α : Type} (f : Nat → α) (n : Nat) (x : α) : putN f n x n = x := if_pos rfl
theorem putN_other {α : Type} (f : Nat → α) {m n : Nat} (h : m ≠ n) (x : α) : putN f n x m = f m := if_neg h
theorem three {n : Nat} (h : n < 3) : n = 0 ∨ n = 1 ∨ n = 2 := by omega
theorem hv_get (g : Nat → Sp.B) (A : Nat → Option Addr) (c : Nat → Nat) {n : Nat} (h : n < 3) : (hvCells g A c)[n * 2]? = some (.int .i64 (g n).1) ∧ (hvCells g A c)[n * 2 + 1]? = some (.slice (A n) (g n).2.1.length (c n)) := by
  rcases three h with rfl | rfl | rfl <;> exact ⟨rfl, rfl⟩
theorem tv_get (t : Nat → Int) {n : Nat} (h : n < 3) : (tvCells t)[n]? = some (.int .i64 (t n)) := by
  rcases three h with rfl | rfl | rfl <;> rfl
theorem hv_put (g : Nat → Sp.B) (A : Nat → Option Addr) (c : Nat → Nat) {n : Nat} (h : n < 3) (b : Sp.B) (A' : Option Addr) (c' : Nat) : ((hvCells g A c).setIfInBounds (n * 2) (.int .i64 b.1)).setIfInBounds (n * 2 + 1) (.slice A' b.2.1.length c') = hvCells (putN g n b) (putN A n A') (putN c n c') := by
  rcases three h with rfl | rfl | rfl <;> rfl
theorem tv_put (t : Nat → Int) {n : Nat} (h : n < 3) (x : Int) : (tvCells t).setIfInBounds n (.int .i64 x) = tvCells (putN t n x) := by
  rcases three h with rfl | rfl | rfl <;> rfl
theorem lt_keep {w w' : World} {k : Nat} (h : k < w.heap.size) (e : w'.heap[k]? = w.heap[k]?) : k < w'.heap.size := by
  rcases Nat.lt_or_ge k w'.heap.size with hl | hl
  · exact hl
  · rw [Array.getElem?_eq_none hl, Array.getElem?_eq_getElem h] at e; cases e
theorem st_keep {w w' : World} {A : Option Addr} {n : Nat} {l : List Pg.C} (h : ST cellK w A n l) (hk : ∀ a, A = some a → w'.heap[a.block]? = w.heap[a.block]?) : ST cellK w' A n l := by
  refine ⟨h.len, h.ok, fun hn => ?_⟩
  obtain ⟨b, off, rfl, hlt, hc⟩ := h.mem hn
  have hb := hk ⟨b, off, none⟩ rfl
  exact ⟨b, off, rfl, lt_keep hlt hb, fun i hi j hj => (World.cell?_of_block (a := ⟨b, off + i * cellK.k + j, none⟩) hb).trans (hc i hi j hj)⟩
/-- THE PAGES AND THE TURNS THAT THE LAW KEEPS. -/
structure Hv (w : World) (hb tb : Nat) (g : Nat → Sp.B) (t : Nat → Int) (A : Nat → Option Addr) (c : Nat → Nat) : Prop where
  hblk : Blk w hb 88 (hvCells g A c)
  tblk : Blk w tb 89 (tvCells t)
  each : ∀ n, n < 3 → ST cellK w (A n) (g n).2.1.length (g n).2.1
  few : ∀ n, n < 3 → (g n).2.1.length ≤ 1000
  lt : ∀ n a, n < 3 → A n = some a → a.block < w.heap.size ∧ a.block ≠ hb ∧ a.block ≠ tb
  ne : hb ≠ tb
def XS (hb tb rc : Nat) (A : Nat → Option Addr) (k : Nat) : Prop := k = hb ∨ k = tb ∨ k = rc ∨ ∃ n a, n < 3 ∧ A n = some a ∧ k = a.block
theorem Hv.keep {w w' : World} {hb tb rc : Nat} {g : Nat → Sp.B} {t : Nat → Int} {A : Nat → Option Addr} {c : Nat → Nat} (h : Hv w hb tb g t A c) (hk : ∀ k, XS hb tb rc A k → w'.heap[k]? = w.heap[k]?) : Hv w' hb tb g t A c :=
  ⟨h.hblk.keep (hk _ (.inl rfl)), h.tblk.keep (hk _ (.inr (.inl rfl))), fun n hn => st_keep (h.each n hn) (fun a e => hk _ (.inr (.inr (.inr ⟨n, a, hn, e, rfl⟩)))), h.few, fun n a hn e => ⟨lt_keep (h.lt n a hn e).1 (hk _ (.inr (.inr (.inr ⟨n, a, hn, e, rfl⟩)))), (h.lt n a hn e).2⟩, h.ne⟩
theorem Hv.xlt {w : World} {hb tb rc : Nat} {g : Nat → Sp.B} {t : Nat → Int} {A : Nat → Option Addr} {c : Nat → Nat} (h : Hv w hb tb g t A c) (hr : rc < w.heap.size) : ∀ k, XS hb tb rc A k → k < w.heap.size := by
  rintro k (rfl | rfl | rfl | ⟨n, a, hn, e, rfl⟩)
  · exact h.hblk.lt
  · exact h.tblk.lt
  · exact hr
  · exact (h.lt n a hn e).1
theorem heap_lt3 {w : World} {k : Nat} {o : Obj} (h : w.heap[k]? = some o) : k < w.heap.size := by
  rcases Nat.lt_or_ge k w.heap.size with hl | hl
  · exact hl
  · rw [Array.getElem?_eq_none hl] at h; cases h
/-- all of it: the disk, the pages, what is to be done -/
structure Mem11 (w0 : World) (p hb tb rc : Nat) (d : Dk.D) (g : Nat → Sp.B) (t : Nat → Int) (A : Nat → Option Addr) (c : Nat → Nat) (x : SavedS) (w : World) : Prop where
  dx : ∃ F, DX w0 w p d (XS hb tb rc A) F
  hv : Hv w hb tb g t A c
  rec_ : Blk w rc 91 (sCells x)
  below : Below w0.heap.size w0 w
  ord : w0.heap.size ≤ hb ∧ w0.heap.size ≤ tb ∧ hb ≠ rc ∧ tb ≠ rc
section
variable {w0 w w' : World} {p p' hb tb rc : Nat} {d d' : Dk.D} {g : Nat → Sp.B} {t : Nat → Int} {A : Nat → Option Addr} {c : Nat → Nat} {x : SavedS}
theorem Mem11.grow (h : Mem11 w0 p hb tb rc d g t A c x w) (hbe : Below w.heap.size w w') : Mem11 w0 p hb tb rc d g t A c x w' := by
  obtain ⟨F, h1⟩ := h.dx
  have hlt := h.hv.xlt h.rec_.lt
  exact ⟨⟨F, (h1.grow hbe).1⟩, h.hv.keep (fun k hk => hbe.block k (hlt k hk)), h.rec_.below hbe h.rec_.lt, h.below.trans (hbe.mono h.below.size), h.ord⟩
theorem Mem11.turn {P : Ending → Prop} {f : Nat} {args : Array Value} (h : Mem11 w0 p hb tb rc d g t A c x w) (hc : ∀ F, DX w0 w p d (XS hb tb rc A) F → Calls Try.prog f args w fun e w' => P e ∧ ∃ F', DX w0 w' p' d' (XS hb tb rc A) F' ∧ ∀ k, XS hb tb rc A k → w'.heap[k]? = w.heap[k]?) :
    Calls Try.prog f args w fun e w' => P e ∧ Mem11 w0 p' hb tb rc d' g t A c x w' := by
  obtain ⟨F, h1⟩ := h.dx
  refine (hc F h1).mono ?_
  rintro e w' ⟨hP, F', g1, g2⟩
  exact ⟨hP, ⟨F', g1⟩, h.hv.keep g2, h.rec_.keep (g2 _ (.inr (.inr (.inl rfl)))), g1.below, h.ord⟩
theorem Mem11.crash (h : Mem11 w0 p hb tb rc d g t A c x w) (hok : Dk.Ok d) (AK : Option Addr) (nk ck : Nat) (ks : List Int) (torn : Bool) (cut : Int) (hK : IS w AK nk ks) (hnk : nk ≤ 1000000) (hpl : d.pend.length ≤ 1000000) :
    Calls Try.prog 42 #[.pointer (some ⟨p, 0, none⟩), .agg #[.slice AK nk ck, .bool torn, .int .i64 cut]] w fun e w' => ∃ y, e = .returned (.pointer (some ⟨y, 0, none⟩)) ∧ Mem11 w0 y hb tb rc (Dk.crash d ks torn cut) g t A c x w' := by
  obtain ⟨F, h1⟩ := h.dx
  refine (dx_crash h1 hok AK nk ck ks torn cut hK hnk hpl).mono ?_
  rintro e w' ⟨y, F', rfl, g1, g2⟩
  exact ⟨y, rfl, ⟨F', g1⟩, h.hv.keep g2, h.rec_.keep (g2 _ (.inr (.inr (.inl rfl)))), g1.below, h.ord⟩
theorem Mem11.down (h : Mem11 w0 p hb tb rc d g t A c x w) : Calls Try.prog 41 #[.pointer (some ⟨p, 0, none⟩)] w fun e w' => e = .returned (.bool d.down) ∧ w' = w := by
  obtain ⟨F, h1⟩ := h.dx
  exact dx_down h1
theorem Mem11.load (h : Mem11 w0 p hb tb rc d g t A c x w) {k : Nat} {f : Nat → Sp.B} (ha : Sp.At k d f) {n : Nat} (hn : n < 3) : Calls Try.prog 49 #[.pointer (some ⟨p, 0, none⟩), .int .i64 2, .int .i64 (n : Int)] w (PagTE w (f n, 0)) := by
  obtain ⟨F, h1⟩ := h.dx
  have := dx_sload h1 2 (n : Int) ha.q.ok
  rw [ha.load hn] at this
  exact this
theorem Mem11.cells (h : Mem11 w0 p hb tb rc d g t A c x w) : w.cell? ⟨rc, 0, none⟩ = some (.int .i64 x.N) ∧ w.cell? ⟨rc, 1, none⟩ = some (.int .i64 x.lsn) ∧ w.cell? ⟨rc, 2, none⟩ = some (.slice x.pA x.pn x.pc) ∧ w.cell? ⟨rc, 3, none⟩ = some (.int .i64 x.fuse) ∧ w.cell? ⟨rc, 4, none⟩ = some (.slice x.kA x.kn x.kc) ∧ w.cell? ⟨rc, 5, none⟩ = some (.bool x.torn) ∧ w.cell? ⟨rc, 6, none⟩ = some (.int .i64 x.cut) :=
  ⟨h.rec_.cell 0, h.rec_.cell 1, h.rec_.cell 2, h.rec_.cell 3, h.rec_.cell 4, h.rec_.cell 5, h.rec_.cell 6⟩
theorem Mem11.turnc (h : Mem11 w0 p hb tb rc d g t A c x w) {n : Nat} (hn : n < 3) : w.cell? ⟨tb, n, none⟩ = some (.int .i64 (t n)) ∧ w.frozen? ⟨tb, n, none⟩ = false := ⟨by rw [h.hv.tblk.cell n, tv_get t hn], h.hv.tblk.free n⟩
theorem Mem11.pagec (h : Mem11 w0 p hb tb rc d g t A c x w) {n : Nat} (hn : n < 3) : w.cell? ⟨hb, n * 2, none⟩ = some (.int .i64 (g n).1) ∧ w.cell? ⟨hb, n * 2 + 1, none⟩ = some (.slice (A n) (g n).2.1.length (c n)) ∧ w.frozen? ⟨hb, n * 2, none⟩ = false ∧ w.frozen? ⟨hb, n * 2 + 1, none⟩ = false :=
  ⟨by rw [h.hv.hblk.cell (n * 2), (hv_get g A c hn).1], by rw [h.hv.hblk.cell (n * 2 + 1), (hv_get g A c hn).2], h.hv.hblk.free _, h.hv.hblk.free _⟩
/-- a page of the call's own is kept -/
theorem Mem11.put (h : Mem11 w0 p hb tb rc d g t A c x w) (hbe : Below w.heap.size w w') {b : Sp.B} {A' : Option Addr} {c' : Nat} (hown : w'.ownsRow w.heap.size 40 3 (.slice A' b.2.1.length c') b.2.1.length (rowOf cellK b.2.1)) (hok : ∀ y ∈ b.2.1, cellK.ok w' y) (hfew : b.2.1.length ≤ 1000) {n : Nat} (hn : n < 3) :
    Mem11 w0 p hb tb rc d (putN g n b) t (putN A n A') (putN c n c') x ((w'.setCell ⟨hb, n * 2, none⟩ (.int .i64 b.1)).setCell ⟨hb, n * 2 + 1, none⟩ (.slice A' b.2.1.length c')) := by
  obtain ⟨F, h1⟩ := h.dx
  have hgr := h.grow hbe
  have hst : ST cellK w' A' b.2.1.length b.2.1 := ST.of_own cellK_len (by decide) hown hok
  have hA : ∀ a, A' = some a → w.heap.size ≤ a.block ∧ a.block < w'.heap.size := by
    intro a e
    rcases hown.2 with ⟨e0, _⟩ | ⟨gg, cap, cur, e0, hge, hg, _⟩
    · injection e0 with e0; rw [e] at e0; cases e0
    · injection e0 with e0
      rw [e] at e0
      injection e0 with e0
      subst e0
      exact ⟨hge, heap_lt3 hg⟩
  have hh := h.hv.hblk.lt
  have htl := h.hv.tblk.lt
  have hd2 : DX w0 w' p d (fun k => XS hb tb rc (putN A n A') k) F := by
    refine h1.more hbe (fun k hk => ?_)
    rcases hk with hk | hk | hk | ⟨m, a, hm, e, hk⟩
    · exact .inl (.inl hk)
    · exact .inl (.inr (.inl hk))
    · exact .inl (.inr (.inr (.inl hk)))
    · by_cases hmn : m = n
      · subst hmn
        rw [putN_same] at e
        have := hA a e
        exact .inr (by omega)
      · rw [putN_other _ hmn] at e
        exact .inl (.inr (.inr (.inr ⟨m, a, hm, e, hk⟩)))
  have hk2 : ∀ k, k ≠ hb → ((w'.setCell ⟨hb, n * 2, none⟩ (.int .i64 b.1)).setCell ⟨hb, n * 2 + 1, none⟩ (.slice A' b.2.1.length c')).heap[k]? = w'.heap[k]? := fun k hk => by
    rw [Below.heap_setCell _ _ _ k hk, Below.heap_setCell _ _ _ k hk]
  refine ⟨⟨F, ?_⟩, ⟨?_, hgr.hv.tblk.keep (hk2 _ h.hv.ne.symm), fun m hm => ?_, fun m hm => ?_, fun m a hm e => ?_, h.hv.ne⟩, hgr.rec_.keep (hk2 _ h.ord.2.2.1.symm), (hgr.below.setCell (by simpa using h.ord.1) _).setCell (by simpa using h.ord.1) _, h.ord⟩
  · have hsz : ((w'.setCell ⟨hb, n * 2, none⟩ (.int .i64 b.1)).setCell ⟨hb, n * 2 + 1, none⟩ (.slice A' b.2.1.length c')).heap.size = w'.heap.size := by simp
    exact ⟨hd2.at_.keep (by rw [hsz]; exact Nat.le_refl _) (fun k hk => hk2 k (fun e => hd2.ne k hk (.inl e))), hd2.ge, hd2.ne, fun k hk => by rw [hsz]; exact hd2.lt k hk, (hgr.below.setCell (by simpa using h.ord.1) _).setCell (by simpa using h.ord.1) _⟩
  · have := (hgr.hv.hblk.put (n * 2) (.int .i64 b.1)).put (n * 2 + 1) (.slice A' b.2.1.length c')
    rw [hv_put g A c hn b A' c'] at this
    exact this
  · by_cases hmn : m = n
    · subst hmn
      rw [putN_same, putN_same]
      exact st_keep hst (fun a e => hk2 _ (by have := hA a e; omega))
    · rw [putN_other _ hmn, putN_other _ hmn]
      exact st_keep (hgr.hv.each m hm) (fun a e => hk2 _ (hgr.hv.lt m a hm e).2.1)
  · by_cases hmn : m = n
    · subst hmn; rw [putN_same]; exact hfew
    · rw [putN_other _ hmn]; exact h.hv.few m hm
  · have hsz : ((w'.setCell ⟨hb, n * 2, none⟩ (.int .i64 b.1)).setCell ⟨hb, n * 2 + 1, none⟩ (.slice A' b.2.1.length c')).heap.size = w'.heap.size := by simp
    rw [hsz]
    by_cases hmn : m = n
    · subst hmn
      rw [putN_same] at e
      have := hA a e
      exact ⟨by omega, by omega, by omega⟩
    · rw [putN_other _ hmn] at e
      exact hgr.hv.lt m a hm e
/-- a turn is kept -/
theorem Mem11.putT (h : Mem11 w0 p hb tb rc d g t A c x w) {n : Nat} (hn : n < 3) (v : Int) : Mem11 w0 p hb tb rc d g (putN t n v) A c x (w.setCell ⟨tb, n, none⟩ (.int .i64 v)) := by
  obtain ⟨F, h1⟩ := h.dx
  have hk2 : ∀ k, k ≠ tb → (w.setCell ⟨tb, n, none⟩ (.int .i64 v)).heap[k]? = w.heap[k]? := fun k hk => Below.heap_setCell _ _ _ k hk
  have hsz : (w.setCell ⟨tb, n, none⟩ (.int .i64 v)).heap.size = w.heap.size := by simp
  refine ⟨⟨F, ⟨h1.at_.keep (by rw [hsz]; exact Nat.le_refl _) (fun k hk => hk2 k (fun e => h1.ne k hk (.inr (.inl e)))), h1.ge, h1.ne, fun k hk => by rw [hsz]; exact h1.lt k hk, h.below.setCell (by simpa using h.ord.2.1) _⟩⟩, ⟨h.hv.hblk.keep (hk2 _ h.hv.ne), ?_, fun m hm => st_keep (h.hv.each m hm) (fun a e => hk2 _ (h.hv.lt m a hm e).2.2), h.hv.few, fun m a hm e => by rw [hsz]; exact h.hv.lt m a hm e, h.hv.ne⟩, h.rec_.keep (hk2 _ h.ord.2.2.2.symm), h.below.setCell (by simpa using h.ord.2.1) _, h.ord⟩
  have := h.hv.tblk.put n (.int .i64 v)
  rw [tv_put t hn v] at this
  exact this
end
def XH (hb tb : Nat) (A : Nat → Option Addr) (k : Nat) : Prop := k = hb ∨ k = tb ∨ ∃ n a, n < 3 ∧ A n = some a ∧ k = a.block
/-- at the head of the loop -/
structure St0 (w0 : World) (p hb tb : Nat) (d : Dk.D) (g : Nat → Sp.B) (t : Nat → Int) (A : Nat → Option Addr) (c : Nat → Nat) (w : World) : Prop where
  dx : ∃ F, DX w0 w p d (XH hb tb A) F
  hv : Hv w hb tb g t A c
  below : Below w0.heap.size w0 w
  ord : w0.heap.size ≤ hb ∧ w0.heap.size ≤ tb
theorem St0.box {w0 w : World} {p hb tb : Nat} {d : Dk.D} {g : Nat → Sp.B} {t : Nat → Int} {A : Nat → Option Addr} {c : Nat → Nat} (h : St0 w0 p hb tb d g t A c w) (x : SavedS) : Mem11 w0 p hb tb w.heap.size d g t A c x (w.alloc (.cells (sCells x) 91)) := by
  obtain ⟨F, h1⟩ := h.dx
  have hbe : Below w.heap.size w (w.alloc (.cells (sCells x) 91)) := (Below.refl _ _).alloc (Nat.le_refl _) _
  have hh := h.hv.hblk.lt
  have htl := h.hv.tblk.lt
  refine ⟨⟨F, h1.more hbe (fun k hk => ?_)⟩, ?_, Blk.new _ _ _, h.below.trans (hbe.mono h.below.size), h.ord.1, h.ord.2, by omega, by omega⟩
  · rcases hk with hk | hk | hk | hk
    · exact .inl (.inl hk)
    · exact .inl (.inr (.inl hk))
    · exact .inr (by simp; omega)
    · exact .inl (.inr (.inr hk))
  · refine ⟨h.hv.hblk.below hbe hh, h.hv.tblk.below hbe htl, fun n hn => (h.hv.each n hn).below hbe, h.hv.few, fun n a hn e => ?_, h.hv.ne⟩
    have := h.hv.lt n a hn e
    exact ⟨by simp; omega, this.2⟩
theorem Mem11.unbox {w0 w : World} {p hb tb rc : Nat} {d : Dk.D} {g : Nat → Sp.B} {t : Nat → Int} {A : Nat → Option Addr} {c : Nat → Nat} {x : SavedS} (h : Mem11 w0 p hb tb rc d g t A c x w) : St0 w0 p hb tb d g t A c w := by
  obtain ⟨F, h1⟩ := h.dx
  refine ⟨⟨F, h1.less (fun k hk => ?_)⟩, h.hv, h.below, h.ord.1, h.ord.2.1⟩
  rcases hk with hk | hk | hk
  · exact .inl hk
  · exact .inr (.inl hk)
  · exact .inr (.inr (.inr hk))
def St (w0 : World) (hb tb i : Nat) (v : Value) (w : World) : Prop := ∃ p d g A c, v = .pointer (some ⟨p, 0, none⟩) ∧ Sp.At (i + 1) d g ∧ St0 w0 p hb tb d g (fun n => (g n).2.2) A c w
theorem at_more {k : Nat} {d : Dk.D} {g : Nat → Sp.B} (a : Sp.At k d g) : Sp.At (k + 1) d g := a.more (by omega) ⟨a.q.ok, a.q.size, a.q.pend, a.q.now, a.q.down, a.q.fuse, by have := a.q.syncs; omega⟩
theorem Mem11.next {w0 w : World} {p hb tb rc i : Nat} {d : Dk.D} {g : Nat → Sp.B} {A : Nat → Option Addr} {c : Nat → Nat} {x : SavedS} (h : Mem11 w0 p hb tb rc d g (fun n => (g n).2.2) A c x w) (ha : Sp.At (i + 1) d g) : St w0 hb tb (i + 1) (.pointer (some ⟨p, 0, none⟩)) w := ⟨p, d, g, A, c, rfl, at_more ha, h.unbox⟩
theorem great_not {l : List Pg.C} (h : Pg.great l = false) : l.length ≤ 20 := by
  unfold Pg.great at h
  rw [Bool.or_eq_false_iff] at h
  simpa using h.1
theorem cinfoI : (Try.prog.info? 3).map (fun i => (i.zero, i.size, i.bytes)) = some (some (.int .i64 0), 1, 8) := by kernel_rfl
section
variable {P : Program} {ops : Array Oper} {Q : Exit → Act → World → Prop} {md : Region.Mode} {S : World → Prop}
theorem anyH_skip {i d : Nat} {oi : Oper} {fuel : Nat} {listed : Array Bool} {tmps : Array Value} {ds : List Deferred} {w : World} (hi : ops[i]? = some oi)
    (hs : Region.noSelect ops = true) (hf : Region.free md ops listed i = true) (hr : (Region.ready md ops listed).contains i = true)
    (hQ : ∀ c a w, Q (.panic c) (a.put oi.dst undef) w → Q (.panic c) a w) (hd : oi.dst = some d) (hw : Region.wanted oi (yielded ops tmps) = false) (hS : S w)
    (h : wpAnyH P md ops Q S fuel (listed.setIfInBounds i true) { tmps := tmps.setIfInBounds d undef, defers := ds } w) : wpAnyH P md ops Q S (fuel + 1) listed { tmps := tmps, defers := ds } w :=
  wpAnyH_take hi hs hf hr hQ (Or.inr ⟨hw, rfl⟩) hS (by rw [hd]; exact h)
theorem anyH_take {i d : Nat} {oi : Oper} {v : Value} {fuel : Nat} {listed : Array Bool} {tmps : Array Value} {ds : List Deferred} {w : World} (hi : ops[i]? = some oi)
    (hs : Region.noSelect ops = true) (hf : Region.free md ops listed i = true) (hr : (Region.ready md ops listed).contains i = true)
    (hQ : ∀ c a w, Q (.panic c) (a.put oi.dst v) w → Q (.panic c) a w) (hd : oi.dst = some d) (hw : Region.wanted oi (yielded ops tmps) = true)
    (hy : ∀ W : World, S W → (execOp (Act.eval { tmps := tmps, defers := ds }) oi).run P W = .ok (.value v) W) (hS : S w)
    (h : wpAnyH P md ops Q S fuel (listed.setIfInBounds i true) { tmps := tmps.setIfInBounds d v, defers := ds } w) : wpAnyH P md ops Q S (fuel + 1) listed { tmps := tmps, defers := ds } w :=
  wpAnyH_take hi hs hf hr hQ (Or.inl ⟨hw, hy⟩) hS (by rw [hd]; exact h)
end
/-- behind the save, and the fall -/
def Aft (w0 : World) (hb tb rc i n0 er : Nat) (g : Nat → Sp.B) (b : Sp.B) (A : Nat → Option Addr) (c : Nat → Nat) (x : SavedS) (v : Value) (w : World) : Prop :=
  ∃ p d f, v = .pointer (some ⟨p, 0, none⟩) ∧ Sp.At (i + 1 + 1) d f ∧ (f = Sp.put g n0 b ∨ f = g ∧ er ≠ 0) ∧ Mem11 w0 p hb tb rc d g (fun n => (g n).2.2) A c x w
/-- the pages while the law looks at them: the first j are the new ones -/
def mix (f g : Nat → Sp.B) (j : Nat) : Nat → Sp.B := fun n => if n < j then f n else g n
theorem mix_zero (f g : Nat → Sp.B) : mix f g 0 = g := by funext n; exact if_neg (by omega)
theorem mix_all {f g : Nat → Sp.B} {j : Nat} (hj : 3 ≤ j) (h : ∀ n, ¬ n < 3 → f n = g n) : mix f g j = f := by
  funext n
  unfold mix
  by_cases hn : n < j
  · rw [if_pos hn]
  · rw [if_neg hn, h n (by omega)]
theorem mix_at (f g : Nat → Sp.B) (j : Nat) : mix f g j j = g j := if_neg (by omega)
theorem mix_same {f g : Nat → Sp.B} {j : Nat} (h : f j = g j) : mix f g (j + 1) = mix f g j := by
  funext n
  unfold mix
  by_cases hn : n < j
  · rw [if_pos hn, if_pos (by omega)]
  · by_cases e : n = j
    · subst e; rw [if_neg hn, if_pos (by omega), h]
    · rw [if_neg hn, if_neg (by omega)]
theorem mix_put (f g : Nat → Sp.B) (j : Nat) : mix f g (j + 1) = putN (mix f g j) j (f j) := by
  funext n
  unfold mix putN
  by_cases e : n = j
  · subst e; rw [if_pos rfl, if_pos (by omega)]
  · rw [if_neg e]
    show _ = if n < j then f n else g n
    by_cases hn : n < j
    · rw [if_pos hn, if_pos (by omega)]
    · rw [if_neg hn, if_neg (by omega)]
theorem mix_putT (f g : Nat → Sp.B) (j : Nat) : (fun n => (mix f g (j + 1) n).2.2) = putN (fun n => (mix f g j n).2.2) j (f j).2.2 := by
  rw [mix_put]
  funext n
  unfold putN
  by_cases e : n = j
  · rw [if_pos e, if_pos e]
  · rw [if_neg e, if_neg e]
set_option maxHeartbeats 16000000 in
theorem walk (A : Option Addr) (m cap : Nat) (l : List SavedS) (w : World) (hl : ST savedK w A m l) (hmc : m ≤ cap) (hcm : cap ≤ maxLen) :
    Calls Try.prog 14 #[.slice A m cap] w fun e w' => e = .returned (.bool true) ∧ Below w.heap.size w w' := by
  unfold maxLen at hcm
  by_cases hm40 : 40 < m
  · have hd40 : decide ((40 : Int) < (m : Int)) = true := by simp; omega
    clear hl
    go_enter Try.func14, Try.ntmps14
    go_wp2_with fail
    refine (awake11_any w).mono ?_
    rintro e w1 ⟨rfl, hb⟩
    have HB := Lib.hid hb
    clear hb
    go_wp2_with fail
    go_ret
    exact ⟨rfl, HB.out⟩
  · have hd40 : decide ((40 : Int) < (m : Int)) = false := by simp; omega
    have HL := Lib.hid hl
    clear hl
    obtain ⟨i0, hi0, hz0, hz1, hz2⟩ := info_parts cinfoI
    have HI := Lib.hid (And.intro hi0 (And.intro hz0 (And.intro hz1 hz2)))
    clear hi0 hz0 hz1 hz2
    go_enter Try.func14, Try.ntmps14
    go_wp2_with fail
    refine (new_any 8 (by omega) w).mono ?_
    rintro e w1 ⟨p, rfl, hb1, F1, hd1, hg1⟩
    have hx1 : DX w w1 p (Dk.new 8) (fun _ => False) F1 := ⟨hd1, hg1, fun _ _ h => h, fun _ h => h.elim, hb1⟩
    have hst : St0 w p w1.heap.size (w1.heap.size + 1) (Dk.new 8) (fun _ => Sp.none_) (fun _ => 0) (fun _ => none) (fun _ => 0) ((w1.alloc (.cells (hvCells (fun _ => Sp.none_) (fun _ => none) (fun _ => 0)) 88)).alloc (.cells (tvCells (fun _ => 0)) 89)) := by
      have hbe : Below w1.heap.size w1 ((w1.alloc (.cells (hvCells (fun _ => Sp.none_) (fun _ => none) (fun _ => 0)) 88)).alloc (.cells (tvCells (fun _ => 0)) 89)) := ((Below.refl _ _).alloc (Nat.le_refl _) _).alloc (by simp) _
      have hs1 := hb1.size
      refine ⟨⟨F1, hx1.more hbe (fun k hk => ?_)⟩, ⟨(Blk.new w1 _ _).alloc _, ?_, fun n hn => ST.empty _ _ _, fun n hn => by simp [Sp.none_], fun n a hn e => by simp at e, by omega⟩, hb1.trans (hbe.mono hb1.size), by omega, by omega⟩
      · rcases hk with hk | hk | ⟨_, _, _, hk, _⟩
        · exact .inr (by simp; omega)
        · exact .inr (by simp; omega)
        · simp at hk
      · have := Blk.new (w1.alloc (.cells (hvCells (fun _ => Sp.none_) (fun _ => none) (fun _ => 0)) 88)) 89 (tvCells (fun _ => 0))
        rwa [show (w1.alloc (.cells (hvCells (fun _ => Sp.none_) (fun _ => none) (fun _ => 0)) 88)).heap.size = w1.heap.size + 1 by simp] at this
    have hst' : St w w1.heap.size (w1.heap.size + 1) 0 (.pointer (some ⟨p, 0, none⟩)) ((w1.alloc (.cells (hvCells (fun _ => Sp.none_) (fun _ => none) (fun _ => 0)) 88)).alloc (.cells (tvCells (fun _ => 0)) 89)) := ⟨p, _, _, _, _, rfl, Sp.at_new, hst⟩
    unfold hvCells tvCells Sp.none_ at hst'
    simp only [List.length_nil] at hst'
    have H1 := Lib.hid hst'
    clear hb1 hd1 hg1 hx1 hst hst'
    go_wp2_with fail
    generalize (w1.alloc (.cells #[.int .i64 0, .slice none 0 0, .int .i64 0, .slice none 0 0, .int .i64 0, .slice none 0 0] 88)).alloc (.cells #[.int .i64 0, .int .i64 0, .int .i64 0] 89) = w3 at *
    generalize w1.heap.size + 1 = tb at *
    generalize w1.heap.size = hb at *
    go_loopg [3, 7] m (fun gk s3 s7 wr => ∃ (i : Nat), i ≤ m ∧ gk = m - i ∧ s7 = .int .i64 i ∧ St w hb tb i s3 wr)
    case atStart => exact ⟨0, by omega, by omega, rfl, H1.out⟩
    case round =>
      obtain ⟨i, hi, rfl, rfl, p, d, g, Ah, ch, rfl, hA, hX⟩ := hrel
      clear H1
      by_cases hlt : i < m
      · obtain ⟨b, off, rfl, hbl, hcs, hok⟩ := saved_at (HL.out.below hX.below) hlt
        have hok0 : savedK.ok w (l.getD i savedK.zero) := by
          obtain ⟨_, _, _, _, _, h⟩ := saved_at HL.out hlt
          exact h
        generalize l.getD i savedK.zero = x at *
        have hxs0 := hok0.2.1
        have hxk0 := hok0.2.2.1
        clear hok0
        obtain ⟨⟨hxN, hxl, hxf⟩, hxs, hxk, hkc, hkm, hpc, hpm⟩ := hok
        have c0 := hcs 0 (by omega)
        have c1 := hcs 1 (by omega)
        have c2 := hcs 2 (by omega)
        have c3 := hcs 3 (by omega)
        have c4 := hcs 4 (by omega)
        have c5 := hcs 5 (by omega)
        have c6 := hcs 6 (by omega)
        simp only [savedK, Nat.add_zero, List.getElem?_cons_zero, List.getElem?_cons_succ] at c0 c1 c2 c3 c4 c5 c6
        have him : (i : Int) < (m : Int) := by omega
        have hbx : Below wr.heap.size wr (wr.alloc (.cells (sCells x) 91)) := (Below.refl _ _).alloc (Nat.le_refl _) _
        have hM := hX.box x
        have hxs' := hxs.below hbx
        have hxk' := hxk.below hbx
        dsimp only [sCells] at hM hxs' hxk'
        have HB := Lib.hid (And.intro hA (And.intro hM (And.intro hxs' (And.intro hxk' (And.intro hxl hxf)))))
        have HW := Lib.hid (And.intro hxs0 hxk0)
        obtain ⟨k0, k1, k2, k3, k4, k5, k6⟩ := hM.cells
        clear hA hM hX hxs hxk hcs hbx hxs' hxk' hxl hxf hkc hkm hpc hpm hxs0 hxk0
        by_cases hN : 0 ≤ x.N ∧ x.N ≤ 2
        · obtain ⟨hN0, hN2⟩ := hN
          go_upto_region 10 with fail
          generalize wr.alloc (.cells #[.int .i64 x.N, .int .i64 x.lsn, .slice x.pA x.pn x.pc, .int .i64 x.fuse, .slice x.kA x.kn x.kc, .bool x.torn, .int .i64 x.cut] 91) = w4 at *
          generalize wr.heap.size = rc at *
          clear c0 c1 c2 c3 c4 c5 c6 hbl
          go_wp2_with fail
          refine (great10_any x.lsn x.pA x.pn x.pc x.cells w4 HB.out.2.2.1).mono ?_
          cases hgr : Pg.great x.cells with
          | true =>
            rintro e w5 ⟨rfl, hb5⟩
            have H5 := Lib.hid ((HB.out.2.1.grow hb5).next HB.out.1)
            clear hb5
            go_wp2_with fail
            go_roundg (m - (i + 1))
            case measure => omega
            case rel => exact ⟨i + 1, by omega, rfl, by go_num, H5.out⟩
          | false =>
            rintro e w5 ⟨rfl, hb5⟩
            have h20 := great_not hgr
            have hpn : x.pn ≤ 20 := by rw [← HB.out.2.2.1.len]; exact h20
            have H5 := Lib.hid (And.intro (HB.out.2.1.grow hb5) (And.intro (HB.out.2.2.1.below hb5) (HB.out.2.2.2.1.below hb5)))
            obtain ⟨n0, n1, n2, n3, n4, n5, n6⟩ := H5.out.1.cells
            clear hb5 k0 k1 k2 k3 k4 k5 k6 hgr
            go_wp2_with fail
            refine (refMay10_any x.lsn x.pA x.pn x.pc x.cells w5 H5.out.2.1 (by omega)).mono ?_
            cases hmay : Pg.may x.lsn x.cells with
            | false =>
              rintro e w6 ⟨rfl, hb6⟩
              have H6 := Lib.hid ((H5.out.1.grow hb6).next HB.out.1)
              clear hb6
              go_wp2_with fail
              go_roundg (m - (i + 1))
              case measure => omega
              case rel => exact ⟨i + 1, by omega, rfl, by go_num, H6.out⟩
            | true =>
              rintro e w6 ⟨rfl, hb6⟩
              have H6 := Lib.hid (And.intro (H5.out.1.grow hb6) (And.intro (H5.out.2.1.below hb6) (H5.out.2.2.below hb6)))
              obtain ⟨k0, k1, k2, k3, k4, k5, k6⟩ := H6.out.1.cells
              have HM := Lib.hid hmay
              clear hb6 n0 n1 n2 n3 n4 n5 n6 hmay
              by_cases hk10 : 10 < x.kn
              · have hkd : decide (10 < (x.kn : Int)) = true := by simp; omega
                go_wp2_with fail
                go_roundg (m - (i + 1))
                case measure => omega
                case rel => exact ⟨i + 1, by omega, rfl, by go_num, H6.out.1.next HB.out.1⟩
              · have hkd : decide (10 < (x.kn : Int)) = false := by simp; omega
                go_upto_region 11 with fail
                obtain ⟨n0, hn0⟩ := Int.eq_ofNat_of_zero_le hN0
                have hn3 : n0 < 3 := by omega
                have hn3' : (n0 : Int) < 3 := by omega
                obtain ⟨er, r, hsv, hdn, hrk, hrp, hf1, hf2⟩ := Sp.fall HB.out.1 (by omega) hn3 HM.out x.fuse HB.out.2.2.2.2.2.2 x.keep x.torn x.cut
                have hfk := Dk.fused_ok HB.out.1.q.ok x.fuse HB.out.2.2.2.2.2.2
                have hfp : (Dk.fused d x.fuse).pend.length ≤ 999999 := by show d.pend.length ≤ _; rw [HB.out.1.q.pend]; simp
                have hfy : (Dk.fused d x.fuse).syncs ≤ 999999 := by have := HB.out.1.q.syncs; show d.syncs ≤ _; omega
                have hgt := HB.out.1.few n0 hn3
                have hgt0 := (HB.out.1.nonneg hn3).1
                obtain ⟨t0, ht0⟩ : ∃ t0, t0 = (g n0).2.2 := ⟨_, rfl⟩
                rw [← ht0] at hsv hf1 hf2 hgt hgt0
                have hwt : IntKind.i64.wrap (t0 + 1) = t0 + 1 := by rw [IntKind.wrap_i64]; omega
                have HV := Lib.hid (And.intro hsv (And.intro hrk (And.intro hrp (And.intro hf1 (And.intro hf2 (And.intro hfk (And.intro hfp (And.intro hfy (And.intro hn0 (And.intro ht0 hwt))))))))))
                clear hsv hrk hrp hf1 hf2 hfk hfp hfy ht0 hwt
                go_wp2_with fail
                refine (Mem11.turn H6.out.1 (fun F hX => dx_fuse hX x.fuse)).mono ?_
                rintro e w7 ⟨rfl, hm7⟩
                have hst7 := (HW.out.1.below hm7.below).below ((Below.refl _ _).drew)
                have hst7b := HW.out.1.below hm7.below
                obtain ⟨n0c, n1c, n2c, n3c, n4c, n5c, n6c⟩ := hm7.cells
                have ntc := (hm7.turnc hn3).1
                rw [HV.out.2.2.2.2.2.2.2.2.1] at n0c
                rw [← HV.out.2.2.2.2.2.2.2.2.2.1] at ntc
                have HS : w7.cell? ⟨rc, 0, none⟩ = some (.int .i64 (n0 : Int)) ∧ w7.cell? ⟨rc, 1, none⟩ = some (.int .i64 x.lsn) ∧ w7.cell? ⟨rc, 2, none⟩ = some (.slice x.pA x.pn x.pc) ∧ w7.cell? ⟨tb, n0, none⟩ = some (.int .i64 t0) := ⟨n0c, n1c, n2c, ntc⟩
                have H7 := Lib.hid (And.intro hm7 hst7)
                clear hm7 hst7 hst7b n0c n1c n2c n3c n4c n5c n6c ntc k0 k1 k2 k3 k4 k5 k6
                go_upto_region 12 with fail
                go_region_held3 (fun w' => w'.cell? ⟨rc, 0, none⟩ = some (.int .i64 (n0 : Int)) ∧ w'.cell? ⟨rc, 1, none⟩ = some (.int .i64 x.lsn) ∧ w'.cell? ⟨rc, 2, none⟩ = some (.slice x.pA x.pn x.pc) ∧ w'.cell? ⟨tb, n0, none⟩ = some (.int .i64 t0)) ((exact HS)) (first
                  | (go_at_call 19; go_must ((with_reducible refine (copy10_any x.lsn x.pA x.pn x.pc x.cells _ H7.out.2 (by omega)).mono ?_); rintro e w8 ⟨A8, c8, rfl, ho8, hb8⟩; have hm8 := (H7.out.1.grow ((Below.refl _ _).drew)).grow hb8; obtain ⟨n0c, n1c, n2c, n3c, n4c, n5c, n6c⟩ := hm8.cells; have ntc := (hm8.turnc hn3).1; rw [HV.out.2.2.2.2.2.2.2.2.1] at n0c; rw [← HV.out.2.2.2.2.2.2.2.2.2.1] at ntc; have HS : w8.cell? ⟨rc, 0, none⟩ = some (.int .i64 (n0 : Int)) ∧ w8.cell? ⟨rc, 1, none⟩ = some (.int .i64 x.lsn) ∧ w8.cell? ⟨rc, 2, none⟩ = some (.slice x.pA x.pn x.pc) ∧ w8.cell? ⟨tb, n0, none⟩ = some (.int .i64 t0) := ⟨n0c, n1c, n2c, ntc⟩; have hsave := Mem11.turn hm8 (fun F hX => dx_ssave hX 2 (n0 : Int) (t0 + 1) x.lsn A8 x.cells.length c8 x.cells HV.out.2.2.2.2.2.1 HV.out.2.2.2.2.2.2.1 HV.out.2.2.2.2.2.2.2.1 (ST.of_own cellK_len (by decide) ho8 (Pg.may_ok HM.out w8)) (by omega) HB.out.2.2.2.2.1); rw [HV.out.1, ← HV.out.2.2.2.2.2.2.2.2.2.2] at hsave; have H8 := Lib.hid hsave; clear hm8 ho8 hb8 n0c n1c n2c n3c n4c n5c n6c ntc hsave))
                  | (go_at_call 48; go_must ((refine H8.out.mono ?_); rintro e w9 ⟨rfl, hm9⟩; obtain ⟨n0c, n1c, n2c, n3c, n4c, n5c, n6c⟩ := hm9.cells; have ntc := (hm9.turnc hn3).1; rw [HV.out.2.2.2.2.2.2.2.2.1] at n0c; rw [← HV.out.2.2.2.2.2.2.2.2.2.1] at ntc; have HS : w9.cell? ⟨rc, 0, none⟩ = some (.int .i64 (n0 : Int)) ∧ w9.cell? ⟨rc, 1, none⟩ = some (.int .i64 x.lsn) ∧ w9.cell? ⟨rc, 2, none⟩ = some (.slice x.pA x.pn x.pc) ∧ w9.cell? ⟨tb, n0, none⟩ = some (.int .i64 t0) := ⟨n0c, n1c, n2c, ntc⟩; have H9 := Lib.hid hm9; clear hm9 n0c n1c n2c n3c n4c n5c n6c ntc)))
                all_goals
                  have hAf : ∀ p' d' f w', Sp.At (i + 1 + 1) d' f → (f = Sp.put g n0 (x.lsn, x.cells, t0 + 1) ∨ f = g ∧ er ≠ 0) → Mem11 w p' hb tb rc d' g (fun n => (g n).2.2) Ah ch x w' → Aft w hb tb rc i n0 er g (x.lsn, x.cells, t0 + 1) Ah ch x (.pointer (some ⟨p', 0, none⟩)) w' := fun p' d' f w' h1 h2 h3 => ⟨p', d', f, rfl, h1, h2, h3⟩
                  have hdw := Mem11.down H9.out
                  obtain ⟨n0c, n1c, n2c, n3c, n4c, n5c, n6c⟩ := H9.out.cells
                  have HD := Lib.hid hdw
                  have HAF := Lib.hid hAf
                  clear hdw hAf n0c n1c n2c
                  rcases hdn with ⟨her, hdn⟩ | ⟨her, hdn⟩
                  · have e1 : ((er : Int) == 0) = true := by rw [her]; rfl
                    have e2 : ((er : Int) != 0) = false := by rw [her]; rfl
                    have e3 : ((er : Int) == 40) = false := by rw [her]; rfl
                    have e4 : ((er : Int) != 40) = true := by rw [her]; rfl
                    have HE := Lib.hid (And.intro her hdn)
                    clear her hdn
                    go_wp2_with fail
                    refine HD.out.mono ?_
                    rw [HE.out.2]
                    rintro e w10 ⟨rfl, rfl⟩
                    by_cases hF : x.fuse < 0
                    · have HF := Lib.hid hF
                      have hfd : decide (0 ≤ x.fuse) = false := by simp; omega
                      have HQ := Lib.hid (HAF.out _ _ _ _ (HV.out.2.2.2.1 HE.out.1 HF.out) (.inl rfl) H9.out)
                      go_wp2_with fail
                      obtain ⟨p2, d2, f, hpe, hAt, hfw, hM⟩ := HQ.out
                      have hp2 : p = p2 := by injection hpe with e; injection e with e; injection e
                      subst hp2
                      have hfn : ∀ n, n ≠ n0 → f n = g n := fun n hn => by
                        rcases hfw with h | h
                        · rw [h, Sp.put_other _ hn]
                        · rw [h.1]
                      have hM0 : Mem11 w p hb tb rc d2 (mix f g 0) (fun n => (mix f g 0 n).2.2) Ah ch x w10 := by rw [mix_zero]; exact hM
                      have HT := Lib.hid (And.intro hAt (And.intro hfw (And.intro hM0 hfn)))
                      have HER := Lib.hid hpe
                      clear hpe hAt hfw hM hfn hM0 HQ
                      go_loopg [10] 3 (fun gk s10 wx => ∃ (j : Nat) (A' : Nat → Option Addr) (c' : Nat → Nat), j ≤ 3 ∧ gk = 3 - j ∧ s10 = .int .i64 j ∧ Mem11 w p hb tb rc d2 (mix f g j) (fun n => (mix f g j n).2.2) A' c' x wx)
                      case atStart => exact ⟨0, Ah, ch, by omega, rfl, rfl, HT.out.2.2.1⟩
                      case round =>
                        obtain ⟨j, A', c', hj, rfl, rfl, hMj⟩ := hrel
                        by_cases hj3 : j < 3
                        · have hj3' : (j : Int) < 3 := by omega
                          have hld := hMj.load HT.out.1 hj3
                          obtain ⟨b', hb'⟩ : ∃ b', f j = b' := ⟨_, rfl⟩
                          rw [hb'] at hld
                          obtain ⟨bl, bc, bt⟩ := b'
                          have HJ := Lib.hid (And.intro hMj hb')
                          have HLD := Lib.hid hld
                          clear hMj hb' hld
                          go_wp2_with fail
                          refine HLD.out.mono ?_
                          rintro e wl ⟨Al, cl, rfl, hol, hbl2⟩
                          simp only at hol ⊢
                          have hba : Below wl.heap.size wl (wl.alloc (.cells #[.int .i64 bl, .slice Al bc.length cl] 24)) := (Below.refl _ _).alloc (Nat.le_refl _) _
                          have hM2 := (HJ.out.1.grow hbl2).grow hba
                          have hpk := Blk.new wl 24 #[.int .i64 bl, .slice Al bc.length cl]
                          have hsa := fun (h : ∀ y ∈ bc, cellK.ok wl y) => (ST.of_own cellK_len (by decide) hol h).below hba
                          have HP2 := Lib.hid (And.intro hM2 (And.intro hpk hsa))
                          clear hba hM2 hpk hsa hol hbl2
                          go_upto_region 21 with fail
                          generalize wl.alloc (.cells #[.int .i64 bl, .slice Al bc.length cl] 24) = w2 at *
                          generalize wl.heap.size = pb at *
                          obtain ⟨n0c, n1c, n2c, n3c, n4c, n5c, n6c⟩ := HP2.out.1.cells
                          rw [HV.out.2.2.2.2.2.2.2.2.1] at n0c
                          have ntc := (HP2.out.1.turnc hj3).1
                          rw [mix_at] at ntc
                          have q0 : w2.cell? ⟨pb, 0, none⟩ = some (.int .i64 bl) := HP2.out.2.1.cell 0
                          have q1 : w2.cell? ⟨pb, 1, none⟩ = some (.slice Al bc.length cl) := HP2.out.2.1.cell 1
                          by_cases hway : j = n0 ∧ f = Sp.put g n0 (x.lsn, x.cells, t0 + 1)
                          · obtain ⟨rfl, hfp⟩ := hway
                            have he := HJ.out.2
                            rw [hfp, Sp.put_same] at he
                            injection he with he1 he2
                            injection he2 with he2 he3
                            subst he1 he2 he3
                            have hlen := HW.out.1.len
                            rw [← HV.out.2.2.2.2.2.2.2.2.2.1] at ntc
                            have hSa := HP2.out.2.2 (Pg.may_ok HM.out wl)
                            have hSb := HW.out.1.below HP2.out.1.below
                            have HSS := Lib.hid (And.intro hSa (And.intro hSb hlen))
                            clear hSa hSb hlen hfp n3c n4c n5c n6c
                            go_wp2_with fail
                            have hsm : Calls Try.prog 24 #[pVal x.lsn Al x.cells.length cl, pVal x.lsn x.pA x.pn x.pc] w2 fun e w' => e = .returned (.bool true) ∧ Below w2.heap.size w2 w' := by
                              rw [HSS.out.2.2]
                              exact same10_eq x.lsn Al x.pA x.pn cl x.pc x.cells w2 (by rw [← HSS.out.2.2]; exact HSS.out.1) HSS.out.2.1 (by omega)
                            refine hsm.mono ?_
                            clear hsm
                            rintro e ws ⟨rfl, hbs⟩
                            have hMs := HP2.out.1.grow hbs
                            have hps := HP2.out.2.1.below hbs HP2.out.2.1.lt
                            have q0s : ws.cell? ⟨pb, 0, none⟩ = some (.int .i64 x.lsn) := hps.cell 0
                            have q1s : ws.cell? ⟨pb, 1, none⟩ = some (.slice Al x.cells.length cl) := hps.cell 1
                            have HSM := Lib.hid (And.intro hMs (HSS.out.1.below hbs))
                            clear hMs hps hbs q0 q1 n0c n1c n2c ntc
                            go_wp2_with fail
                            refine (copy10_any x.lsn Al x.cells.length cl x.cells ws HSM.out.2 (by omega)).mono ?_
                            rintro e wc ⟨A13, c13, rfl, ho13, hb13⟩
                            have hput := HSM.out.1.put (b := (x.lsn, x.cells, t0 + 1)) hb13 ho13 (Pg.may_ok HM.out wc) (show x.cells.length ≤ 1000 by omega) hj3
                            obtain ⟨g0, g1, g2, g3⟩ := (HSM.out.1.grow hb13).pagec hj3
                            simp only at hput
                            have HPU := Lib.hid hput
                            clear hput ho13 hb13 q0s q1s
                            go_upto_region 25 with fail
                            generalize (wc.setCell ⟨hb, j * 2, none⟩ (.int .i64 x.lsn)).setCell ⟨hb, j * 2 + 1, none⟩ (.slice A13 x.cells.length c13) = wz at *
                            have hpt := HPU.out.putT hj3 (t0 + 1)
                            obtain ⟨t0c, t0f⟩ := HPU.out.turnc hj3
                            have hmx : Mem11 w p hb tb rc d2 (mix f g (j + 1)) (fun n => (mix f g (j + 1) n).2.2) (putN A' j A13) (putN c' j c13) x (wz.setCell ⟨tb, j, none⟩ (.int .i64 (t0 + 1))) := by
                              rw [mix_putT, mix_put, HJ.out.2]
                              exact hpt
                            have HMX := Lib.hid hmx
                            clear hpt hmx g0 g1 g2 g3
                            go_wp2_with fail
                            go_roundg (3 - (j + 1))
                            case measure => omega
                            case rel => exact ⟨j + 1, _, _, by omega, rfl, by go_num, HMX.out⟩
                          · have hfj : f j = g j := by
                              by_cases hjn : j = n0
                              · rcases HT.out.2.1 with h | h
                                · exact absurd ⟨hjn, h⟩ hway
                                · rw [h.1]
                              · exact HT.out.2.2.2 j hjn
                            have hgj : g j = (bl, bc, bt) := by rw [← hfj]; exact HJ.out.2
                            have hMn : Mem11 w p hb tb rc d2 (mix f g (j + 1)) (fun n => (mix f g (j + 1) n).2.2) A' c' x w2 := by
                              rw [mix_same hfj]; exact HP2.out.1
                            rw [hgj] at ntc
                            obtain ⟨m0, m1, _, _⟩ := HP2.out.1.pagec hj3
                            rw [mix_at, hgj] at m0 m1
                            have hev := HP2.out.1.hv.each j hj3
                            rw [mix_at, hgj] at hev
                            simp only at ntc m0 m1 hev
                            have hfew := HP2.out.1.hv.few j hj3
                            rw [mix_at, hgj] at hfew
                            simp only at hfew
                            have hS2 := HP2.out.2.2 (fun y hy => hev.ok y hy)
                            have HS : w2.cell? ⟨rc, 0, none⟩ = some (.int .i64 (n0 : Int)) ∧ w2.cell? ⟨tb, j, none⟩ = some (.int .i64 bt) ∧ w2.cell? ⟨pb, 0, none⟩ = some (.int .i64 bl) ∧ w2.cell? ⟨pb, 1, none⟩ = some (.slice Al bc.length cl) ∧ w2.cell? ⟨hb, j * 2, none⟩ = some (.int .i64 bl) ∧ w2.cell? ⟨hb, j * 2 + 1, none⟩ = some (.slice (A' j) bc.length (c' j)) ∧ Below w2.heap.size w2 w2.drew := ⟨n0c, ntc, q0, q1, m0, m1, (Below.refl _ _).drew⟩
                            have hsame : ∀ W, (w2.heap.size ≤ w2.heap.size ∧ Below w2.heap.size w2 W) → Calls Try.prog 24 #[pVal bl Al bc.length cl, pVal bl (A' j) bc.length (c' j)] W fun e w' => e = .returned (.bool true) ∧ (w'.cell? ⟨rc, 0, none⟩ = some (.int .i64 (n0 : Int)) ∧ w'.cell? ⟨tb, j, none⟩ = some (.int .i64 bt) ∧ w'.cell? ⟨pb, 0, none⟩ = some (.int .i64 bl) ∧ w'.cell? ⟨pb, 1, none⟩ = some (.slice Al bc.length cl) ∧ w'.cell? ⟨hb, j * 2, none⟩ = some (.int .i64 bl) ∧ w'.cell? ⟨hb, j * 2 + 1, none⟩ = some (.slice (A' j) bc.length (c' j)) ∧ Below w2.heap.size w2 w') := fun W hW => by
                              refine (same10_eq bl Al (A' j) bc.length cl (c' j) bc W (hS2.below hW.2) (hev.below hW.2) (by omega)).mono ?_
                              rintro e w' ⟨h1, h2⟩
                              have hbb := hW.2.trans (h2.mono hW.2.size)
                              have hk : ∀ (a : Addr) v, w2.cell? a = some v → w'.cell? a = some v := fun a v h => (World.cell?_of_block (hbb.block _ (World.block_lt_of_cell? w2 a h))).trans h
                              exact ⟨h1, hk _ _ n0c, hk _ _ ntc, hk _ _ q0, hk _ _ q1, hk _ _ m0, hk _ _ m1, hbb⟩
                            have HSAME := Lib.hid (fun W (h : W.cell? ⟨rc, 0, none⟩ = some (.int .i64 (n0 : Int)) ∧ W.cell? ⟨tb, j, none⟩ = some (.int .i64 bt) ∧ W.cell? ⟨pb, 0, none⟩ = some (.int .i64 bl) ∧ W.cell? ⟨pb, 1, none⟩ = some (.slice Al bc.length cl) ∧ W.cell? ⟨hb, j * 2, none⟩ = some (.int .i64 bl) ∧ W.cell? ⟨hb, j * 2 + 1, none⟩ = some (.slice (A' j) bc.length (c' j)) ∧ Below w2.heap.size w2 W) => hsame W ⟨Nat.le_refl _, h.2.2.2.2.2.2⟩)
                            have HMN := Lib.hid hMn
                            have HHS := Lib.hid HS
                            have hbt : j = n0 → bt = t0 := fun e => by
                              have h := HV.out.2.2.2.2.2.2.2.2.2.1
                              rw [← e, hgj] at h
                              exact h.symm
                            clear hev hS2 hsame hMn hgj hfj n1c n2c n3c n4c n5c n6c hfew
                            by_cases hjn : j = n0
                            · have her0 : er ≠ 0 := by
                                rcases HT.out.2.1 with h | h
                                · exact absurd ⟨hjn, h⟩ hway
                                · exact h.2
                              first
                              | (exfalso; exact her0 HE.out.1)
                              | (have hbt2 := hbt hjn
                                 subst hbt2
                                 subst hjn
                                 have htt : (bt == bt + 1) = false := by rw [beq_eq_false_iff_ne]; omega
                                 clear hbt hway her0
                                 go_upto_region 26 with fail
                                 have HS := HHS.out
                                 go_region_held3 (fun w' => w'.cell? ⟨rc, 0, none⟩ = some (.int .i64 (j : Int)) ∧ w'.cell? ⟨tb, j, none⟩ = some (.int .i64 bt) ∧ w'.cell? ⟨pb, 0, none⟩ = some (.int .i64 bl) ∧ w'.cell? ⟨pb, 1, none⟩ = some (.slice Al bc.length cl) ∧ w'.cell? ⟨hb, j * 2, none⟩ = some (.int .i64 bl) ∧ w'.cell? ⟨hb, j * 2 + 1, none⟩ = some (.slice (A' j) bc.length (c' j)) ∧ Below w2.heap.size w2 w') ((exact HS)) (first
                                   | (go_at_call 24; go_must ((refine (HSAME.out _ (by assumption)).mono ?_); rintro e wq ⟨rfl, HS⟩)))
                                 all_goals
                                   have HMQ := Lib.hid (HMN.out.grow HS.2.2.2.2.2.2)
                                   go_wp2_with fail
                                   go_roundg (3 - (j + 1))
                                   case measure => omega
                                   case rel => exact ⟨j + 1, _, _, by omega, rfl, by go_num, HMQ.out⟩)
                            · have hjne : ((j : Int) == (n0 : Int)) = false := by rw [beq_eq_false_iff_ne]; omega
                              clear hway hbt
                              go_upto_region 26 with fail
                              refine wp_region_held_drew (S := fun w' => w'.cell? ⟨rc, 0, none⟩ = some (.int .i64 (n0 : Int)) ∧ w'.cell? ⟨tb, j, none⟩ = some (.int .i64 bt) ∧ w'.cell? ⟨pb, 0, none⟩ = some (.int .i64 bl) ∧ w'.cell? ⟨pb, 1, none⟩ = some (.slice Al bc.length cl) ∧ w'.cell? ⟨hb, j * 2, none⟩ = some (.int .i64 bl) ∧ w'.cell? ⟨hb, j * 2 + 1, none⟩ = some (.slice (A' j) bc.length (c' j)) ∧ Below w2.heap.size w2 w') (by kernel_rfl) HS (fun hHeld => ?_)
                              refine anyH_take (i := 0) (d := 146) (v := .int .i64 (j : Int)) rfl (by kernel_rfl) (by kernel_rfl) (by kernel_rfl) (fun _ _ _ h => h) rfl (by rfl) (fun w' hSw => by (try dsimp only at hSw); go_simp; first | done | with_reducible rfl) (by assumption) ?_
                              try simp only [List.setIfInBounds_toArray, List.set_cons_zero, List.set_cons_succ]
                              refine anyH_take (i := 1) (d := 147) (v := .pointer (some ⟨rc, 0, none⟩)) rfl (by kernel_rfl) (by kernel_rfl) (by kernel_rfl) (fun _ _ _ h => h) rfl (by rfl) (fun w' hSw => by (try dsimp only at hSw); go_simp; first | done | with_reducible rfl) (by assumption) ?_
                              try simp only [List.setIfInBounds_toArray, List.set_cons_zero, List.set_cons_succ]
                              refine anyH_take (i := 2) (d := 148) (v := .int .i64 (n0 : Int)) rfl (by kernel_rfl) (by kernel_rfl) (by kernel_rfl) (fun _ _ _ h => h) rfl (by rfl) (fun w' hSw => by (try dsimp only at hSw); go_simp; first | done | with_reducible rfl) (by assumption) ?_
                              try simp only [List.setIfInBounds_toArray, List.set_cons_zero, List.set_cons_succ]
                              refine anyH_take (i := 3) (d := 149) (v := .bool false) rfl (by kernel_rfl) (by kernel_rfl) (by kernel_rfl) (fun _ _ _ h => h) rfl (by rfl) (fun w' hSw => by (try dsimp only at hSw); go_simp; first | done | with_reducible rfl) (by assumption) ?_
                              try simp only [List.setIfInBounds_toArray, List.set_cons_zero, List.set_cons_succ]
                              refine anyH_take (i := 4) (d := 150) (v := .bool false) rfl (by kernel_rfl) (by kernel_rfl) (by kernel_rfl) (fun _ _ _ h => h) rfl (by rfl) (fun w' hSw => by (try dsimp only at hSw); go_simp; first | done | with_reducible rfl) (by assumption) ?_
                              try simp only [List.setIfInBounds_toArray, List.set_cons_zero, List.set_cons_succ]
                              refine anyH_skip (i := 5) (d := 151) rfl (by kernel_rfl) (by kernel_rfl) (by kernel_rfl) (fun _ _ _ h => h) rfl (by rfl) (by assumption) ?_
                              try simp only [List.setIfInBounds_toArray, List.set_cons_zero, List.set_cons_succ]
                              refine anyH_skip (i := 6) (d := 152) rfl (by kernel_rfl) (by kernel_rfl) (by kernel_rfl) (fun _ _ _ h => h) rfl (by rfl) (by assumption) ?_
                              try simp only [List.setIfInBounds_toArray, List.set_cons_zero, List.set_cons_succ]
                              refine anyH_take (i := 7) (d := 153) (v := .bool false) rfl (by kernel_rfl) (by kernel_rfl) (by kernel_rfl) (fun _ _ _ h => h) rfl (by rfl) (fun w' hSw => by (try dsimp only at hSw); go_simp; first | done | with_reducible rfl) (by assumption) ?_
                              try simp only [List.setIfInBounds_toArray, List.set_cons_zero, List.set_cons_succ]
                              refine anyH_take (i := 8) (d := 154) (v := .bool false) rfl (by kernel_rfl) (by kernel_rfl) (by kernel_rfl) (fun _ _ _ h => h) rfl (by rfl) (fun w' hSw => by (try dsimp only at hSw); go_simp; first | done | with_reducible rfl) (by assumption) ?_
                              try simp only [List.setIfInBounds_toArray, List.set_cons_zero, List.set_cons_succ]
                              refine anyH_take (i := 9) (d := 155) (v := .int .i64 bt) rfl (by kernel_rfl) (by kernel_rfl) (by kernel_rfl) (fun _ _ _ h => h) rfl (by rfl) (fun w' hSw => by (try dsimp only at hSw); go_simp; first | done | with_reducible rfl) (by assumption) ?_
                              try simp only [List.setIfInBounds_toArray, List.set_cons_zero, List.set_cons_succ]
                              refine anyH_take (i := 10) (d := 156) (v := .int .i64 (j : Int)) rfl (by kernel_rfl) (by kernel_rfl) (by kernel_rfl) (fun _ _ _ h => h) rfl (by rfl) (fun w' hSw => by (try dsimp only at hSw); go_simp; first | done | with_reducible rfl) (by assumption) ?_
                              try simp only [List.setIfInBounds_toArray, List.set_cons_zero, List.set_cons_succ]
                              refine anyH_take (i := 11) (d := 157) (v := .pointer (some ⟨tb, j, none⟩)) rfl (by kernel_rfl) (by kernel_rfl) (by kernel_rfl) (fun _ _ _ h => h) rfl (by rfl) (fun w' hSw => by (try dsimp only at hSw); go_simp; first | done | with_reducible rfl) (by assumption) ?_
                              try simp only [List.setIfInBounds_toArray, List.set_cons_zero, List.set_cons_succ]
                              refine anyH_take (i := 12) (d := 158) (v := .int .i64 bt) rfl (by kernel_rfl) (by kernel_rfl) (by kernel_rfl) (fun _ _ _ h => h) rfl (by rfl) (fun w' hSw => by (try dsimp only at hSw); go_simp; first | done | with_reducible rfl) (by assumption) ?_
                              try simp only [List.setIfInBounds_toArray, List.set_cons_zero, List.set_cons_succ]
                              refine anyH_take (i := 13) (d := 159) (v := .bool false) rfl (by kernel_rfl) (by kernel_rfl) (by kernel_rfl) (fun _ _ _ h => h) rfl (by rfl) (fun w' hSw => by (try dsimp only at hSw); go_simp; first | done | with_reducible rfl) (by assumption) ?_
                              try simp only [List.setIfInBounds_toArray, List.set_cons_zero, List.set_cons_succ]
                              refine anyH_take (i := 14) (d := 160) (v := .bool false) rfl (by kernel_rfl) (by kernel_rfl) (by kernel_rfl) (fun _ _ _ h => h) rfl (by rfl) (fun w' hSw => by (try dsimp only at hSw); go_simp; first | done | with_reducible rfl) (by assumption) ?_
                              try simp only [List.setIfInBounds_toArray, List.set_cons_zero, List.set_cons_succ]
                              refine anyH_take (i := 15) (d := 161) (v := .bool false) rfl (by kernel_rfl) (by kernel_rfl) (by kernel_rfl) (fun _ _ _ h => h) rfl (by rfl) (fun w' hSw => by (try dsimp only at hSw); go_simp; first | done | with_reducible rfl) (by assumption) ?_
                              try simp only [List.setIfInBounds_toArray, List.set_cons_zero, List.set_cons_succ]
                              refine anyH_take (i := 16) (d := 162) (v := pVal bl Al bc.length cl) rfl (by kernel_rfl) (by kernel_rfl) (by kernel_rfl) (fun _ _ _ h => h) rfl (by rfl) (fun w' hSw => by (try dsimp only at hSw); go_simp; first | done | with_reducible rfl) (by assumption) ?_
                              try simp only [List.setIfInBounds_toArray, List.set_cons_zero, List.set_cons_succ]
                              refine anyH_take (i := 17) (d := 163) (v := .int .i64 (j : Int)) rfl (by kernel_rfl) (by kernel_rfl) (by kernel_rfl) (fun _ _ _ h => h) rfl (by rfl) (fun w' hSw => by (try dsimp only at hSw); go_simp; first | done | with_reducible rfl) (by assumption) ?_
                              try simp only [List.setIfInBounds_toArray, List.set_cons_zero, List.set_cons_succ]
                              refine anyH_take (i := 18) (d := 164) (v := .pointer (some ⟨hb, j * 2, none⟩)) rfl (by kernel_rfl) (by kernel_rfl) (by kernel_rfl) (fun _ _ _ h => h) rfl (by rfl) (fun w' hSw => by (try dsimp only at hSw); go_simp; first | done | with_reducible rfl) (by assumption) ?_
                              try simp only [List.setIfInBounds_toArray, List.set_cons_zero, List.set_cons_succ]
                              refine anyH_take (i := 19) (d := 165) (v := pVal bl (A' j) bc.length (c' j)) rfl (by kernel_rfl) (by kernel_rfl) (by kernel_rfl) (fun _ _ _ h => h) rfl (by rfl) (fun w' hSw => by (try dsimp only at hSw); go_simp; first | done | with_reducible rfl) (by assumption) ?_
                              try simp only [List.setIfInBounds_toArray, List.set_cons_zero, List.set_cons_succ]
                              refine wpAnyH_ready (rs := [20]) (by kernel_rfl) (by simp) ?_
                              refine AllReadyH.cons rfl (fun K hK => ?_) AllReadyH.nil
                              go_simp
                              refine (HSAME.out _ (by assumption)).mono ?_
                              rintro e wq ⟨rfl, HS⟩
                              refine hK.out _ _ (by first | exact HS | (dsimp only; exact HS)) (fun hHeld => ?_)
                              clear hK K
                              try simp only [Act.put, List.setIfInBounds_toArray, List.set_cons_zero, List.set_cons_succ]
                              refine anyH_take (i := 21) (d := 167) (v := .bool false) rfl (by kernel_rfl) (by kernel_rfl) (by kernel_rfl) (fun _ _ _ h => h) rfl (by rfl) (fun w' hSw => by (try dsimp only at hSw); go_simp; first | done | with_reducible rfl) (by assumption) ?_
                              try simp only [List.setIfInBounds_toArray, List.set_cons_zero, List.set_cons_succ]
                              refine anyH_take (i := 22) (d := 168) (v := .bool false) rfl (by kernel_rfl) (by kernel_rfl) (by kernel_rfl) (fun _ _ _ h => h) rfl (by rfl) (fun w' hSw => by (try dsimp only at hSw); go_simp; first | done | with_reducible rfl) (by assumption) ?_
                              try simp only [List.setIfInBounds_toArray, List.set_cons_zero, List.set_cons_succ]
                              refine wpAnyH_done (by kernel_rfl) ?_ _
                              have HMQ := Lib.hid (HMN.out.grow HS.2.2.2.2.2.2)
                              go_wp2_with fail
                              go_roundg (3 - (j + 1))
                              case measure => omega
                              case rel => exact ⟨j + 1, _, _, by omega, rfl, by go_num, HMQ.out⟩
                        · obtain rfl : j = 3 := by omega
                          have hmx : mix f g 3 = f := mix_all (Nat.le_refl _) (fun n hn => HT.out.2.2.2 n (by omega))
                          rw [hmx] at hMj
                          have HJ := Lib.hid hMj
                          clear hMj
                          go_wp2_with fail
                          go_roundg (m - (i + 1))
                          case measure => omega
                          case rel => exact ⟨i + 1, by omega, rfl, by go_num, ⟨_, _, _, _, _, rfl, HT.out.1, HJ.out.unbox⟩⟩
                    · have HF := Lib.hid hF
                      have hfd : decide (0 ≤ x.fuse) = true := by simp; omega
                      go_upto_region 16 with fail
                      have hblkE : ((w10.alloc (.cells #[] 3)).drew).heap[w10.heap.size]? = some (.cells #[] 3 (0, 0)) := heap_alloc_new w10 _
                      have hbE : Below w10.heap.size w10 (w10.alloc (.cells #[] 3)).drew := (((Below.refl _ _).alloc (Nat.le_refl _) _).drew)
                      have hisE : IS ((w10.alloc (.cells #[] 3)).drew) x.kA x.kn x.keep := (HW.out.2.below H9.out.below).below hbE
                      have HS : w10.cell? ⟨rc, 4, none⟩ = some (.slice x.kA x.kn x.kc) ∧ w10.cell? ⟨rc, 5, none⟩ = some (.bool x.torn) ∧ w10.cell? ⟨rc, 6, none⟩ = some (.int .i64 x.cut) := H9.out.cells.2.2.2.2
                      have HE2 := Lib.hid (And.intro hblkE (And.intro hisE hbE))
                      have HCC := Lib.hid (HV.out.2.2.2.2.1 (fun h => by have h1 := HF.out; have h2 := h.2; omega))
                      clear hblkE hbE hisE n4c n5c n6c
                      go_region_held3 (fun w' => w'.cell? ⟨rc, 4, none⟩ = some (.slice x.kA x.kn x.kc) ∧ w'.cell? ⟨rc, 5, none⟩ = some (.bool x.torn) ∧ w'.cell? ⟨rc, 6, none⟩ = some (.int .i64 x.cut)) ((first | exact HS | exact ⟨cell_alloc_some' _ HS.1, cell_alloc_some' _ HS.2.1, cell_alloc_some' _ HS.2.2⟩)) (first
                        | (refine step_app_ints (by rfl) (.tmp 95) (.tmp 98) 67 (by rfl) 3 i0 Try.underlying67 HI.out.1 HI.out.2.1 HI.out.2.2.1 HI.out.2.2.2 w10.heap.size (by simp [Act.eval, Act.put]) HE2.out.1 x.kA x.kn x.kc x.keep (by simp [Act.eval, Act.put]) HE2.out.2.1 (by omega) ?_; intro A3 c3 w11 hown3 hg3; have hb11 : Below w10.heap.size w10 w11 := HE2.out.2.2.grown hg3 (by show _ ≤ (w10.alloc _).heap.size; simp) (fun k e => by cases e; exact Nat.le_refl _); have hm11 := H9.out.grow hb11; have HS : w11.cell? ⟨rc, 4, none⟩ = some (.slice x.kA x.kn x.kc) ∧ w11.cell? ⟨rc, 5, none⟩ = some (.bool x.torn) ∧ w11.cell? ⟨rc, 6, none⟩ = some (.int .i64 x.cut) := hm11.cells.2.2.2.2; have H11 := Lib.hid (And.intro hm11 (IS.of_own hown3)); clear hown3 hg3 hb11 hm11)
                        | (go_at_call 42; go_must (refine (Mem11.crash H11.out.1 HV.out.2.1 A3 x.kn c3 x.keep x.torn x.cut H11.out.2 (by omega) (by have := HV.out.2.2.1; omega)).mono ?_; rintro e w12 ⟨y, rfl, h12⟩; have HS := h12.cells.2.2.2.2; have H12 := Lib.hid h12; clear h12)))
                      all_goals
                        obtain ⟨gg, hg1, hg2⟩ := HCC.out
                        have HQ := Lib.hid (HAF.out _ _ gg _ hg1 (by rcases hg2 with h | h; · exact .inl h
                                                                     · exact .inr h) H12.out)
                        clear hg1 hg2
                        go_wp2_with fail
                        obtain ⟨p2, d2, f, hpe, hAt, hfw, hM⟩ := HQ.out
                        have hp2 : y = p2 := by injection hpe with e; injection e with e; injection e
                        subst hp2
                        have hfn : ∀ n, n ≠ n0 → f n = g n := fun n hn => by
                          rcases hfw with h | h
                          · rw [h, Sp.put_other _ hn]
                          · rw [h.1]
                        have hM0 : Mem11 w y hb tb rc d2 (mix f g 0) (fun n => (mix f g 0 n).2.2) Ah ch x w12 := by rw [mix_zero]; exact hM
                        have HT := Lib.hid (And.intro hAt (And.intro hfw (And.intro hM0 hfn)))
                        have HER := Lib.hid hpe
                        clear hpe hAt hfw hM hfn hM0 HQ
                        go_loopg [10] 3 (fun gk s10 wx => ∃ (j : Nat) (A' : Nat → Option Addr) (c' : Nat → Nat), j ≤ 3 ∧ gk = 3 - j ∧ s10 = .int .i64 j ∧ Mem11 w y hb tb rc d2 (mix f g j) (fun n => (mix f g j n).2.2) A' c' x wx)
                        case atStart => exact ⟨0, Ah, ch, by omega, rfl, rfl, HT.out.2.2.1⟩
                        case round =>
                          obtain ⟨j, A', c', hj, rfl, rfl, hMj⟩ := hrel
                          by_cases hj3 : j < 3
                          · have hj3' : (j : Int) < 3 := by omega
                            have hld := hMj.load HT.out.1 hj3
                            obtain ⟨b', hb'⟩ : ∃ b', f j = b' := ⟨_, rfl⟩
                            rw [hb'] at hld
                            obtain ⟨bl, bc, bt⟩ := b'
                            have HJ := Lib.hid (And.intro hMj hb')
                            have HLD := Lib.hid hld
                            clear hMj hb' hld
                            go_wp2_with fail
                            refine HLD.out.mono ?_
                            rintro e wl ⟨Al, cl, rfl, hol, hbl2⟩
                            simp only at hol ⊢
                            have hba : Below wl.heap.size wl (wl.alloc (.cells #[.int .i64 bl, .slice Al bc.length cl] 24)) := (Below.refl _ _).alloc (Nat.le_refl _) _
                            have hM2 := (HJ.out.1.grow hbl2).grow hba
                            have hpk := Blk.new wl 24 #[.int .i64 bl, .slice Al bc.length cl]
                            have hsa := fun (h : ∀ y ∈ bc, cellK.ok wl y) => (ST.of_own cellK_len (by decide) hol h).below hba
                            have HP2 := Lib.hid (And.intro hM2 (And.intro hpk hsa))
                            clear hba hM2 hpk hsa hol hbl2
                            go_upto_region 21 with fail
                            generalize wl.alloc (.cells #[.int .i64 bl, .slice Al bc.length cl] 24) = w2 at *
                            generalize wl.heap.size = pb at *
                            obtain ⟨n0c, n1c, n2c, n3c, n4c, n5c, n6c⟩ := HP2.out.1.cells
                            rw [HV.out.2.2.2.2.2.2.2.2.1] at n0c
                            have ntc := (HP2.out.1.turnc hj3).1
                            rw [mix_at] at ntc
                            have q0 : w2.cell? ⟨pb, 0, none⟩ = some (.int .i64 bl) := HP2.out.2.1.cell 0
                            have q1 : w2.cell? ⟨pb, 1, none⟩ = some (.slice Al bc.length cl) := HP2.out.2.1.cell 1
                            by_cases hway : j = n0 ∧ f = Sp.put g n0 (x.lsn, x.cells, t0 + 1)
                            · obtain ⟨rfl, hfp⟩ := hway
                              have he := HJ.out.2
                              rw [hfp, Sp.put_same] at he
                              injection he with he1 he2
                              injection he2 with he2 he3
                              subst he1 he2 he3
                              have hlen := HW.out.1.len
                              rw [← HV.out.2.2.2.2.2.2.2.2.2.1] at ntc
                              have hSa := HP2.out.2.2 (Pg.may_ok HM.out wl)
                              have hSb := HW.out.1.below HP2.out.1.below
                              have HSS := Lib.hid (And.intro hSa (And.intro hSb hlen))
                              clear hSa hSb hlen hfp n3c n4c n5c n6c
                              go_wp2_with fail
                              have hsm : Calls Try.prog 24 #[pVal x.lsn Al x.cells.length cl, pVal x.lsn x.pA x.pn x.pc] w2 fun e w' => e = .returned (.bool true) ∧ Below w2.heap.size w2 w' := by
                                rw [HSS.out.2.2]
                                exact same10_eq x.lsn Al x.pA x.pn cl x.pc x.cells w2 (by rw [← HSS.out.2.2]; exact HSS.out.1) HSS.out.2.1 (by omega)
                              refine hsm.mono ?_
                              clear hsm
                              rintro e ws ⟨rfl, hbs⟩
                              have hMs := HP2.out.1.grow hbs
                              have hps := HP2.out.2.1.below hbs HP2.out.2.1.lt
                              have q0s : ws.cell? ⟨pb, 0, none⟩ = some (.int .i64 x.lsn) := hps.cell 0
                              have q1s : ws.cell? ⟨pb, 1, none⟩ = some (.slice Al x.cells.length cl) := hps.cell 1
                              have HSM := Lib.hid (And.intro hMs (HSS.out.1.below hbs))
                              clear hMs hps hbs q0 q1 n0c n1c n2c ntc
                              go_wp2_with fail
                              refine (copy10_any x.lsn Al x.cells.length cl x.cells ws HSM.out.2 (by omega)).mono ?_
                              rintro e wc ⟨A13, c13, rfl, ho13, hb13⟩
                              have hput := HSM.out.1.put (b := (x.lsn, x.cells, t0 + 1)) hb13 ho13 (Pg.may_ok HM.out wc) (show x.cells.length ≤ 1000 by omega) hj3
                              obtain ⟨g0, g1, g2, g3⟩ := (HSM.out.1.grow hb13).pagec hj3
                              simp only at hput
                              have HPU := Lib.hid hput
                              clear hput ho13 hb13 q0s q1s
                              go_upto_region 25 with fail
                              generalize (wc.setCell ⟨hb, j * 2, none⟩ (.int .i64 x.lsn)).setCell ⟨hb, j * 2 + 1, none⟩ (.slice A13 x.cells.length c13) = wz at *
                              have hpt := HPU.out.putT hj3 (t0 + 1)
                              obtain ⟨t0c, t0f⟩ := HPU.out.turnc hj3
                              have hmx : Mem11 w y hb tb rc d2 (mix f g (j + 1)) (fun n => (mix f g (j + 1) n).2.2) (putN A' j A13) (putN c' j c13) x (wz.setCell ⟨tb, j, none⟩ (.int .i64 (t0 + 1))) := by
                                rw [mix_putT, mix_put, HJ.out.2]
                                exact hpt
                              have HMX := Lib.hid hmx
                              clear hpt hmx g0 g1 g2 g3
                              go_wp2_with fail
                              go_roundg (3 - (j + 1))
                              case measure => omega
                              case rel => exact ⟨j + 1, _, _, by omega, rfl, by go_num, HMX.out⟩
                            · have hfj : f j = g j := by
                                by_cases hjn : j = n0
                                · rcases HT.out.2.1 with h | h
                                  · exact absurd ⟨hjn, h⟩ hway
                                  · rw [h.1]
                                · exact HT.out.2.2.2 j hjn
                              have hgj : g j = (bl, bc, bt) := by rw [← hfj]; exact HJ.out.2
                              have hMn : Mem11 w y hb tb rc d2 (mix f g (j + 1)) (fun n => (mix f g (j + 1) n).2.2) A' c' x w2 := by
                                rw [mix_same hfj]; exact HP2.out.1
                              rw [hgj] at ntc
                              obtain ⟨m0, m1, _, _⟩ := HP2.out.1.pagec hj3
                              rw [mix_at, hgj] at m0 m1
                              have hev := HP2.out.1.hv.each j hj3
                              rw [mix_at, hgj] at hev
                              simp only at ntc m0 m1 hev
                              have hfew := HP2.out.1.hv.few j hj3
                              rw [mix_at, hgj] at hfew
                              simp only at hfew
                              have hS2 := HP2.out.2.2 (fun y hy => hev.ok y hy)
                              have HS : w2.cell? ⟨rc, 0, none⟩ = some (.int .i64 (n0 : Int)) ∧ w2.cell? ⟨tb, j, none⟩ = some (.int .i64 bt) ∧ w2.cell? ⟨pb, 0, none⟩ = some (.int .i64 bl) ∧ w2.cell? ⟨pb, 1, none⟩ = some (.slice Al bc.length cl) ∧ w2.cell? ⟨hb, j * 2, none⟩ = some (.int .i64 bl) ∧ w2.cell? ⟨hb, j * 2 + 1, none⟩ = some (.slice (A' j) bc.length (c' j)) ∧ Below w2.heap.size w2 w2.drew := ⟨n0c, ntc, q0, q1, m0, m1, (Below.refl _ _).drew⟩
                              have hsame : ∀ W, (w2.heap.size ≤ w2.heap.size ∧ Below w2.heap.size w2 W) → Calls Try.prog 24 #[pVal bl Al bc.length cl, pVal bl (A' j) bc.length (c' j)] W fun e w' => e = .returned (.bool true) ∧ (w'.cell? ⟨rc, 0, none⟩ = some (.int .i64 (n0 : Int)) ∧ w'.cell? ⟨tb, j, none⟩ = some (.int .i64 bt) ∧ w'.cell? ⟨pb, 0, none⟩ = some (.int .i64 bl) ∧ w'.cell? ⟨pb, 1, none⟩ = some (.slice Al bc.length cl) ∧ w'.cell? ⟨hb, j * 2, none⟩ = some (.int .i64 bl) ∧ w'.cell? ⟨hb, j * 2 + 1, none⟩ = some (.slice (A' j) bc.length (c' j)) ∧ Below w2.heap.size w2 w') := fun W hW => by
                                refine (same10_eq bl Al (A' j) bc.length cl (c' j) bc W (hS2.below hW.2) (hev.below hW.2) (by omega)).mono ?_
                                rintro e w' ⟨h1, h2⟩
                                have hbb := hW.2.trans (h2.mono hW.2.size)
                                have hk : ∀ (a : Addr) v, w2.cell? a = some v → w'.cell? a = some v := fun a v h => (World.cell?_of_block (hbb.block _ (World.block_lt_of_cell? w2 a h))).trans h
                                exact ⟨h1, hk _ _ n0c, hk _ _ ntc, hk _ _ q0, hk _ _ q1, hk _ _ m0, hk _ _ m1, hbb⟩
                              have HSAME := Lib.hid (fun W (h : W.cell? ⟨rc, 0, none⟩ = some (.int .i64 (n0 : Int)) ∧ W.cell? ⟨tb, j, none⟩ = some (.int .i64 bt) ∧ W.cell? ⟨pb, 0, none⟩ = some (.int .i64 bl) ∧ W.cell? ⟨pb, 1, none⟩ = some (.slice Al bc.length cl) ∧ W.cell? ⟨hb, j * 2, none⟩ = some (.int .i64 bl) ∧ W.cell? ⟨hb, j * 2 + 1, none⟩ = some (.slice (A' j) bc.length (c' j)) ∧ Below w2.heap.size w2 W) => hsame W ⟨Nat.le_refl _, h.2.2.2.2.2.2⟩)
                              have HMN := Lib.hid hMn
                              have HHS := Lib.hid HS
                              have hbt : j = n0 → bt = t0 := fun e => by
                                have h := HV.out.2.2.2.2.2.2.2.2.2.1
                                rw [← e, hgj] at h
                                exact h.symm
                              clear hev hS2 hsame hMn hgj hfj n1c n2c n3c n4c n5c n6c hfew
                              by_cases hjn : j = n0
                              · have her0 : er ≠ 0 := by
                                  rcases HT.out.2.1 with h | h
                                  · exact absurd ⟨hjn, h⟩ hway
                                  · exact h.2
                                first
                                | (exfalso; exact her0 HE.out.1)
                                | (have hbt2 := hbt hjn
                                   subst hbt2
                                   subst hjn
                                   have htt : (bt == bt + 1) = false := by rw [beq_eq_false_iff_ne]; omega
                                   clear hbt hway her0
                                   go_upto_region 26 with fail
                                   have HS := HHS.out
                                   go_region_held3 (fun w' => w'.cell? ⟨rc, 0, none⟩ = some (.int .i64 (j : Int)) ∧ w'.cell? ⟨tb, j, none⟩ = some (.int .i64 bt) ∧ w'.cell? ⟨pb, 0, none⟩ = some (.int .i64 bl) ∧ w'.cell? ⟨pb, 1, none⟩ = some (.slice Al bc.length cl) ∧ w'.cell? ⟨hb, j * 2, none⟩ = some (.int .i64 bl) ∧ w'.cell? ⟨hb, j * 2 + 1, none⟩ = some (.slice (A' j) bc.length (c' j)) ∧ Below w2.heap.size w2 w') ((exact HS)) (first
                                     | (go_at_call 24; go_must ((refine (HSAME.out _ (by assumption)).mono ?_); rintro e wq ⟨rfl, HS⟩)))
                                   all_goals
                                     have HMQ := Lib.hid (HMN.out.grow HS.2.2.2.2.2.2)
                                     go_wp2_with fail
                                     go_roundg (3 - (j + 1))
                                     case measure => omega
                                     case rel => exact ⟨j + 1, _, _, by omega, rfl, by go_num, HMQ.out⟩)
                              · have hjne : ((j : Int) == (n0 : Int)) = false := by rw [beq_eq_false_iff_ne]; omega
                                clear hway hbt
                                go_upto_region 26 with fail
                                refine wp_region_held_drew (S := fun w' => w'.cell? ⟨rc, 0, none⟩ = some (.int .i64 (n0 : Int)) ∧ w'.cell? ⟨tb, j, none⟩ = some (.int .i64 bt) ∧ w'.cell? ⟨pb, 0, none⟩ = some (.int .i64 bl) ∧ w'.cell? ⟨pb, 1, none⟩ = some (.slice Al bc.length cl) ∧ w'.cell? ⟨hb, j * 2, none⟩ = some (.int .i64 bl) ∧ w'.cell? ⟨hb, j * 2 + 1, none⟩ = some (.slice (A' j) bc.length (c' j)) ∧ Below w2.heap.size w2 w') (by kernel_rfl) HS (fun hHeld => ?_)
                                refine anyH_take (i := 0) (d := 146) (v := .int .i64 (j : Int)) rfl (by kernel_rfl) (by kernel_rfl) (by kernel_rfl) (fun _ _ _ h => h) rfl (by rfl) (fun w' hSw => by (try dsimp only at hSw); go_simp; first | done | with_reducible rfl) (by assumption) ?_
                                try simp only [List.setIfInBounds_toArray, List.set_cons_zero, List.set_cons_succ]
                                refine anyH_take (i := 1) (d := 147) (v := .pointer (some ⟨rc, 0, none⟩)) rfl (by kernel_rfl) (by kernel_rfl) (by kernel_rfl) (fun _ _ _ h => h) rfl (by rfl) (fun w' hSw => by (try dsimp only at hSw); go_simp; first | done | with_reducible rfl) (by assumption) ?_
                                try simp only [List.setIfInBounds_toArray, List.set_cons_zero, List.set_cons_succ]
                                refine anyH_take (i := 2) (d := 148) (v := .int .i64 (n0 : Int)) rfl (by kernel_rfl) (by kernel_rfl) (by kernel_rfl) (fun _ _ _ h => h) rfl (by rfl) (fun w' hSw => by (try dsimp only at hSw); go_simp; first | done | with_reducible rfl) (by assumption) ?_
                                try simp only [List.setIfInBounds_toArray, List.set_cons_zero, List.set_cons_succ]
                                refine anyH_take (i := 3) (d := 149) (v := .bool false) rfl (by kernel_rfl) (by kernel_rfl) (by kernel_rfl) (fun _ _ _ h => h) rfl (by rfl) (fun w' hSw => by (try dsimp only at hSw); go_simp; first | done | with_reducible rfl) (by assumption) ?_
                                try simp only [List.setIfInBounds_toArray, List.set_cons_zero, List.set_cons_succ]
                                refine anyH_take (i := 4) (d := 150) (v := .bool false) rfl (by kernel_rfl) (by kernel_rfl) (by kernel_rfl) (fun _ _ _ h => h) rfl (by rfl) (fun w' hSw => by (try dsimp only at hSw); go_simp; first | done | with_reducible rfl) (by assumption) ?_
                                try simp only [List.setIfInBounds_toArray, List.set_cons_zero, List.set_cons_succ]
                                refine anyH_skip (i := 5) (d := 151) rfl (by kernel_rfl) (by kernel_rfl) (by kernel_rfl) (fun _ _ _ h => h) rfl (by rfl) (by assumption) ?_
                                try simp only [List.setIfInBounds_toArray, List.set_cons_zero, List.set_cons_succ]
                                refine anyH_skip (i := 6) (d := 152) rfl (by kernel_rfl) (by kernel_rfl) (by kernel_rfl) (fun _ _ _ h => h) rfl (by rfl) (by assumption) ?_
                                try simp only [List.setIfInBounds_toArray, List.set_cons_zero, List.set_cons_succ]
                                refine anyH_take (i := 7) (d := 153) (v := .bool false) rfl (by kernel_rfl) (by kernel_rfl) (by kernel_rfl) (fun _ _ _ h => h) rfl (by rfl) (fun w' hSw => by (try dsimp only at hSw); go_simp; first | done | with_reducible rfl) (by assumption) ?_
                                try simp only [List.setIfInBounds_toArray, List.set_cons_zero, List.set_cons_succ]
                                refine anyH_take (i := 8) (d := 154) (v := .bool false) rfl (by kernel_rfl) (by kernel_rfl) (by kernel_rfl) (fun _ _ _ h => h) rfl (by rfl) (fun w' hSw => by (try dsimp only at hSw); go_simp; first | done | with_reducible rfl) (by assumption) ?_
                                try simp only [List.setIfInBounds_toArray, List.set_cons_zero, List.set_cons_succ]
                                refine anyH_take (i := 9) (d := 155) (v := .int .i64 bt) rfl (by kernel_rfl) (by kernel_rfl) (by kernel_rfl) (fun _ _ _ h => h) rfl (by rfl) (fun w' hSw => by (try dsimp only at hSw); go_simp; first | done | with_reducible rfl) (by assumption) ?_
                                try simp only [List.setIfInBounds_toArray, List.set_cons_zero, List.set_cons_succ]
                                refine anyH_take (i := 10) (d := 156) (v := .int .i64 (j : Int)) rfl (by kernel_rfl) (by kernel_rfl) (by kernel_rfl) (fun _ _ _ h => h) rfl (by rfl) (fun w' hSw => by (try dsimp only at hSw); go_simp; first | done | with_reducible rfl) (by assumption) ?_
                                try simp only [List.setIfInBounds_toArray, List.set_cons_zero, List.set_cons_succ]
                                refine anyH_take (i := 11) (d := 157) (v := .pointer (some ⟨tb, j, none⟩)) rfl (by kernel_rfl) (by kernel_rfl) (by kernel_rfl) (fun _ _ _ h => h) rfl (by rfl) (fun w' hSw => by (try dsimp only at hSw); go_simp; first | done | with_reducible rfl) (by assumption) ?_
                                try simp only [List.setIfInBounds_toArray, List.set_cons_zero, List.set_cons_succ]
                                refine anyH_take (i := 12) (d := 158) (v := .int .i64 bt) rfl (by kernel_rfl) (by kernel_rfl) (by kernel_rfl) (fun _ _ _ h => h) rfl (by rfl) (fun w' hSw => by (try dsimp only at hSw); go_simp; first | done | with_reducible rfl) (by assumption) ?_
                                try simp only [List.setIfInBounds_toArray, List.set_cons_zero, List.set_cons_succ]
                                refine anyH_take (i := 13) (d := 159) (v := .bool false) rfl (by kernel_rfl) (by kernel_rfl) (by kernel_rfl) (fun _ _ _ h => h) rfl (by rfl) (fun w' hSw => by (try dsimp only at hSw); go_simp; first | done | with_reducible rfl) (by assumption) ?_
                                try simp only [List.setIfInBounds_toArray, List.set_cons_zero, List.set_cons_succ]
                                refine anyH_take (i := 14) (d := 160) (v := .bool false) rfl (by kernel_rfl) (by kernel_rfl) (by kernel_rfl) (fun _ _ _ h => h) rfl (by rfl) (fun w' hSw => by (try dsimp only at hSw); go_simp; first | done | with_reducible rfl) (by assumption) ?_
                                try simp only [List.setIfInBounds_toArray, List.set_cons_zero, List.set_cons_succ]
                                refine anyH_take (i := 15) (d := 161) (v := .bool false) rfl (by kernel_rfl) (by kernel_rfl) (by kernel_rfl) (fun _ _ _ h => h) rfl (by rfl) (fun w' hSw => by (try dsimp only at hSw); go_simp; first | done | with_reducible rfl) (by assumption) ?_
                                try simp only [List.setIfInBounds_toArray, List.set_cons_zero, List.set_cons_succ]
                                refine anyH_take (i := 16) (d := 162) (v := pVal bl Al bc.length cl) rfl (by kernel_rfl) (by kernel_rfl) (by kernel_rfl) (fun _ _ _ h => h) rfl (by rfl) (fun w' hSw => by (try dsimp only at hSw); go_simp; first | done | with_reducible rfl) (by assumption) ?_
                                try simp only [List.setIfInBounds_toArray, List.set_cons_zero, List.set_cons_succ]
                                refine anyH_take (i := 17) (d := 163) (v := .int .i64 (j : Int)) rfl (by kernel_rfl) (by kernel_rfl) (by kernel_rfl) (fun _ _ _ h => h) rfl (by rfl) (fun w' hSw => by (try dsimp only at hSw); go_simp; first | done | with_reducible rfl) (by assumption) ?_
                                try simp only [List.setIfInBounds_toArray, List.set_cons_zero, List.set_cons_succ]
                                refine anyH_take (i := 18) (d := 164) (v := .pointer (some ⟨hb, j * 2, none⟩)) rfl (by kernel_rfl) (by kernel_rfl) (by kernel_rfl) (fun _ _ _ h => h) rfl (by rfl) (fun w' hSw => by (try dsimp only at hSw); go_simp; first | done | with_reducible rfl) (by assumption) ?_
                                try simp only [List.setIfInBounds_toArray, List.set_cons_zero, List.set_cons_succ]
                                refine anyH_take (i := 19) (d := 165) (v := pVal bl (A' j) bc.length (c' j)) rfl (by kernel_rfl) (by kernel_rfl) (by kernel_rfl) (fun _ _ _ h => h) rfl (by rfl) (fun w' hSw => by (try dsimp only at hSw); go_simp; first | done | with_reducible rfl) (by assumption) ?_
                                try simp only [List.setIfInBounds_toArray, List.set_cons_zero, List.set_cons_succ]
                                refine wpAnyH_ready (rs := [20]) (by kernel_rfl) (by simp) ?_
                                refine AllReadyH.cons rfl (fun K hK => ?_) AllReadyH.nil
                                go_simp
                                refine (HSAME.out _ (by assumption)).mono ?_
                                rintro e wq ⟨rfl, HS⟩
                                refine hK.out _ _ (by first | exact HS | (dsimp only; exact HS)) (fun hHeld => ?_)
                                clear hK K
                                try simp only [Act.put, List.setIfInBounds_toArray, List.set_cons_zero, List.set_cons_succ]
                                refine anyH_take (i := 21) (d := 167) (v := .bool false) rfl (by kernel_rfl) (by kernel_rfl) (by kernel_rfl) (fun _ _ _ h => h) rfl (by rfl) (fun w' hSw => by (try dsimp only at hSw); go_simp; first | done | with_reducible rfl) (by assumption) ?_
                                try simp only [List.setIfInBounds_toArray, List.set_cons_zero, List.set_cons_succ]
                                refine anyH_take (i := 22) (d := 168) (v := .bool false) rfl (by kernel_rfl) (by kernel_rfl) (by kernel_rfl) (fun _ _ _ h => h) rfl (by rfl) (fun w' hSw => by (try dsimp only at hSw); go_simp; first | done | with_reducible rfl) (by assumption) ?_
                                try simp only [List.setIfInBounds_toArray, List.set_cons_zero, List.set_cons_succ]
                                refine wpAnyH_done (by kernel_rfl) ?_ _
                                have HMQ := Lib.hid (HMN.out.grow HS.2.2.2.2.2.2)
                                go_wp2_with fail
                                go_roundg (3 - (j + 1))
                                case measure => omega
                                case rel => exact ⟨j + 1, _, _, by omega, rfl, by go_num, HMQ.out⟩
                          · obtain rfl : j = 3 := by omega
                            have hmx : mix f g 3 = f := mix_all (Nat.le_refl _) (fun n hn => HT.out.2.2.2 n (by omega))
                            rw [hmx] at hMj
                            have HJ := Lib.hid hMj
                            clear hMj
                            go_wp2_with fail
                            go_roundg (m - (i + 1))
                            case measure => omega
                            case rel => exact ⟨i + 1, by omega, rfl, by go_num, ⟨_, _, _, _, _, rfl, HT.out.1, HJ.out.unbox⟩⟩
                  · have e1 : ((er : Int) == 0) = false := by rw [her]; rfl
                    have e2 : ((er : Int) != 0) = true := by rw [her]; rfl
                    have e3 : ((er : Int) == 40) = true := by rw [her]; rfl
                    have e4 : ((er : Int) != 40) = false := by rw [her]; rfl
                    have HE := Lib.hid (And.intro her hdn)
                    clear her hdn
                    go_wp2_with fail
                    refine HD.out.mono ?_
                    rw [HE.out.2]
                    rintro e w10 ⟨rfl, rfl⟩
                    go_upto_region 16 with fail
                    have hblkE : ((w10.alloc (.cells #[] 3)).drew).heap[w10.heap.size]? = some (.cells #[] 3 (0, 0)) := heap_alloc_new w10 _
                    have hbE : Below w10.heap.size w10 (w10.alloc (.cells #[] 3)).drew := (((Below.refl _ _).alloc (Nat.le_refl _) _).drew)
                    have hisE : IS ((w10.alloc (.cells #[] 3)).drew) x.kA x.kn x.keep := (HW.out.2.below H9.out.below).below hbE
                    have HS : w10.cell? ⟨rc, 4, none⟩ = some (.slice x.kA x.kn x.kc) ∧ w10.cell? ⟨rc, 5, none⟩ = some (.bool x.torn) ∧ w10.cell? ⟨rc, 6, none⟩ = some (.int .i64 x.cut) := H9.out.cells.2.2.2.2
                    have HE2 := Lib.hid (And.intro hblkE (And.intro hisE hbE))
                    have HCC := Lib.hid (HV.out.2.2.2.2.1 (fun h => by have := HE.out.1; omega))
                    clear hblkE hbE hisE n4c n5c n6c
                    go_region_held3 (fun w' => w'.cell? ⟨rc, 4, none⟩ = some (.slice x.kA x.kn x.kc) ∧ w'.cell? ⟨rc, 5, none⟩ = some (.bool x.torn) ∧ w'.cell? ⟨rc, 6, none⟩ = some (.int .i64 x.cut)) ((first | exact HS | exact ⟨cell_alloc_some' _ HS.1, cell_alloc_some' _ HS.2.1, cell_alloc_some' _ HS.2.2⟩)) (first
                      | (refine step_app_ints (by rfl) (.tmp 95) (.tmp 98) 67 (by rfl) 3 i0 Try.underlying67 HI.out.1 HI.out.2.1 HI.out.2.2.1 HI.out.2.2.2 w10.heap.size (by simp [Act.eval, Act.put]) HE2.out.1 x.kA x.kn x.kc x.keep (by simp [Act.eval, Act.put]) HE2.out.2.1 (by omega) ?_; intro A3 c3 w11 hown3 hg3; have hb11 : Below w10.heap.size w10 w11 := HE2.out.2.2.grown hg3 (by show _ ≤ (w10.alloc _).heap.size; simp) (fun k e => by cases e; exact Nat.le_refl _); have hm11 := H9.out.grow hb11; have HS : w11.cell? ⟨rc, 4, none⟩ = some (.slice x.kA x.kn x.kc) ∧ w11.cell? ⟨rc, 5, none⟩ = some (.bool x.torn) ∧ w11.cell? ⟨rc, 6, none⟩ = some (.int .i64 x.cut) := hm11.cells.2.2.2.2; have H11 := Lib.hid (And.intro hm11 (IS.of_own hown3)); clear hown3 hg3 hb11 hm11)
                      | (go_at_call 42; go_must (refine (Mem11.crash H11.out.1 HV.out.2.1 A3 x.kn c3 x.keep x.torn x.cut H11.out.2 (by omega) (by have := HV.out.2.2.1; omega)).mono ?_; rintro e w12 ⟨y, rfl, h12⟩; have HS := h12.cells.2.2.2.2; have H12 := Lib.hid h12; clear h12)))
                    all_goals
                      obtain ⟨gg, hg1, hg2⟩ := HCC.out
                      have HQ := Lib.hid (HAF.out _ _ gg _ hg1 (by rcases hg2 with h | h; · exact .inl h
                                                                   · exact .inr h) H12.out)
                      clear hg1 hg2
                      go_wp2_with fail
                      obtain ⟨p2, d2, f, hpe, hAt, hfw, hM⟩ := HQ.out
                      have hp2 : y = p2 := by injection hpe with e; injection e with e; injection e
                      subst hp2
                      have hfn : ∀ n, n ≠ n0 → f n = g n := fun n hn => by
                        rcases hfw with h | h
                        · rw [h, Sp.put_other _ hn]
                        · rw [h.1]
                      have hM0 : Mem11 w y hb tb rc d2 (mix f g 0) (fun n => (mix f g 0 n).2.2) Ah ch x w12 := by rw [mix_zero]; exact hM
                      have HT := Lib.hid (And.intro hAt (And.intro hfw (And.intro hM0 hfn)))
                      have HER := Lib.hid hpe
                      clear hpe hAt hfw hM hfn hM0 HQ
                      go_loopg [10] 3 (fun gk s10 wx => ∃ (j : Nat) (A' : Nat → Option Addr) (c' : Nat → Nat), j ≤ 3 ∧ gk = 3 - j ∧ s10 = .int .i64 j ∧ Mem11 w y hb tb rc d2 (mix f g j) (fun n => (mix f g j n).2.2) A' c' x wx)
                      case atStart => exact ⟨0, Ah, ch, by omega, rfl, rfl, HT.out.2.2.1⟩
                      case round =>
                        obtain ⟨j, A', c', hj, rfl, rfl, hMj⟩ := hrel
                        by_cases hj3 : j < 3
                        · have hj3' : (j : Int) < 3 := by omega
                          have hld := hMj.load HT.out.1 hj3
                          obtain ⟨b', hb'⟩ : ∃ b', f j = b' := ⟨_, rfl⟩
                          rw [hb'] at hld
                          obtain ⟨bl, bc, bt⟩ := b'
                          have HJ := Lib.hid (And.intro hMj hb')
                          have HLD := Lib.hid hld
                          clear hMj hb' hld
                          go_wp2_with fail
                          refine HLD.out.mono ?_
                          rintro e wl ⟨Al, cl, rfl, hol, hbl2⟩
                          simp only at hol ⊢
                          have hba : Below wl.heap.size wl (wl.alloc (.cells #[.int .i64 bl, .slice Al bc.length cl] 24)) := (Below.refl _ _).alloc (Nat.le_refl _) _
                          have hM2 := (HJ.out.1.grow hbl2).grow hba
                          have hpk := Blk.new wl 24 #[.int .i64 bl, .slice Al bc.length cl]
                          have hsa := fun (h : ∀ y ∈ bc, cellK.ok wl y) => (ST.of_own cellK_len (by decide) hol h).below hba
                          have HP2 := Lib.hid (And.intro hM2 (And.intro hpk hsa))
                          clear hba hM2 hpk hsa hol hbl2
                          go_upto_region 21 with fail
                          generalize wl.alloc (.cells #[.int .i64 bl, .slice Al bc.length cl] 24) = w2 at *
                          generalize wl.heap.size = pb at *
                          obtain ⟨n0c, n1c, n2c, n3c, n4c, n5c, n6c⟩ := HP2.out.1.cells
                          rw [HV.out.2.2.2.2.2.2.2.2.1] at n0c
                          have ntc := (HP2.out.1.turnc hj3).1
                          rw [mix_at] at ntc
                          have q0 : w2.cell? ⟨pb, 0, none⟩ = some (.int .i64 bl) := HP2.out.2.1.cell 0
                          have q1 : w2.cell? ⟨pb, 1, none⟩ = some (.slice Al bc.length cl) := HP2.out.2.1.cell 1
                          by_cases hway : j = n0 ∧ f = Sp.put g n0 (x.lsn, x.cells, t0 + 1)
                          · obtain ⟨rfl, hfp⟩ := hway
                            have he := HJ.out.2
                            rw [hfp, Sp.put_same] at he
                            injection he with he1 he2
                            injection he2 with he2 he3
                            subst he1 he2 he3
                            have hlen := HW.out.1.len
                            rw [← HV.out.2.2.2.2.2.2.2.2.2.1] at ntc
                            have hSa := HP2.out.2.2 (Pg.may_ok HM.out wl)
                            have hSb := HW.out.1.below HP2.out.1.below
                            have HSS := Lib.hid (And.intro hSa (And.intro hSb hlen))
                            clear hSa hSb hlen hfp n3c n4c n5c n6c
                            go_wp2_with fail
                            have hsm : Calls Try.prog 24 #[pVal x.lsn Al x.cells.length cl, pVal x.lsn x.pA x.pn x.pc] w2 fun e w' => e = .returned (.bool true) ∧ Below w2.heap.size w2 w' := by
                              rw [HSS.out.2.2]
                              exact same10_eq x.lsn Al x.pA x.pn cl x.pc x.cells w2 (by rw [← HSS.out.2.2]; exact HSS.out.1) HSS.out.2.1 (by omega)
                            refine hsm.mono ?_
                            clear hsm
                            rintro e ws ⟨rfl, hbs⟩
                            have hMs := HP2.out.1.grow hbs
                            have hps := HP2.out.2.1.below hbs HP2.out.2.1.lt
                            have q0s : ws.cell? ⟨pb, 0, none⟩ = some (.int .i64 x.lsn) := hps.cell 0
                            have q1s : ws.cell? ⟨pb, 1, none⟩ = some (.slice Al x.cells.length cl) := hps.cell 1
                            have HSM := Lib.hid (And.intro hMs (HSS.out.1.below hbs))
                            clear hMs hps hbs q0 q1 n0c n1c n2c ntc
                            go_wp2_with fail
                            refine (copy10_any x.lsn Al x.cells.length cl x.cells ws HSM.out.2 (by omega)).mono ?_
                            rintro e wc ⟨A13, c13, rfl, ho13, hb13⟩
                            have hput := HSM.out.1.put (b := (x.lsn, x.cells, t0 + 1)) hb13 ho13 (Pg.may_ok HM.out wc) (show x.cells.length ≤ 1000 by omega) hj3
                            obtain ⟨g0, g1, g2, g3⟩ := (HSM.out.1.grow hb13).pagec hj3
                            simp only at hput
                            have HPU := Lib.hid hput
                            clear hput ho13 hb13 q0s q1s
                            go_upto_region 25 with fail
                            generalize (wc.setCell ⟨hb, j * 2, none⟩ (.int .i64 x.lsn)).setCell ⟨hb, j * 2 + 1, none⟩ (.slice A13 x.cells.length c13) = wz at *
                            have hpt := HPU.out.putT hj3 (t0 + 1)
                            obtain ⟨t0c, t0f⟩ := HPU.out.turnc hj3
                            have hmx : Mem11 w y hb tb rc d2 (mix f g (j + 1)) (fun n => (mix f g (j + 1) n).2.2) (putN A' j A13) (putN c' j c13) x (wz.setCell ⟨tb, j, none⟩ (.int .i64 (t0 + 1))) := by
                              rw [mix_putT, mix_put, HJ.out.2]
                              exact hpt
                            have HMX := Lib.hid hmx
                            clear hpt hmx g0 g1 g2 g3
                            go_wp2_with fail
                            go_roundg (3 - (j + 1))
                            case measure => omega
                            case rel => exact ⟨j + 1, _, _, by omega, rfl, by go_num, HMX.out⟩
                          · have hfj : f j = g j := by
                              by_cases hjn : j = n0
                              · rcases HT.out.2.1 with h | h
                                · exact absurd ⟨hjn, h⟩ hway
                                · rw [h.1]
                              · exact HT.out.2.2.2 j hjn
                            have hgj : g j = (bl, bc, bt) := by rw [← hfj]; exact HJ.out.2
                            have hMn : Mem11 w y hb tb rc d2 (mix f g (j + 1)) (fun n => (mix f g (j + 1) n).2.2) A' c' x w2 := by
                              rw [mix_same hfj]; exact HP2.out.1
                            rw [hgj] at ntc
                            obtain ⟨m0, m1, _, _⟩ := HP2.out.1.pagec hj3
                            rw [mix_at, hgj] at m0 m1
                            have hev := HP2.out.1.hv.each j hj3
                            rw [mix_at, hgj] at hev
                            simp only at ntc m0 m1 hev
                            have hfew := HP2.out.1.hv.few j hj3
                            rw [mix_at, hgj] at hfew
                            simp only at hfew
                            have hS2 := HP2.out.2.2 (fun y hy => hev.ok y hy)
                            have HS : w2.cell? ⟨rc, 0, none⟩ = some (.int .i64 (n0 : Int)) ∧ w2.cell? ⟨tb, j, none⟩ = some (.int .i64 bt) ∧ w2.cell? ⟨pb, 0, none⟩ = some (.int .i64 bl) ∧ w2.cell? ⟨pb, 1, none⟩ = some (.slice Al bc.length cl) ∧ w2.cell? ⟨hb, j * 2, none⟩ = some (.int .i64 bl) ∧ w2.cell? ⟨hb, j * 2 + 1, none⟩ = some (.slice (A' j) bc.length (c' j)) ∧ Below w2.heap.size w2 w2.drew := ⟨n0c, ntc, q0, q1, m0, m1, (Below.refl _ _).drew⟩
                            have hsame : ∀ W, (w2.heap.size ≤ w2.heap.size ∧ Below w2.heap.size w2 W) → Calls Try.prog 24 #[pVal bl Al bc.length cl, pVal bl (A' j) bc.length (c' j)] W fun e w' => e = .returned (.bool true) ∧ (w'.cell? ⟨rc, 0, none⟩ = some (.int .i64 (n0 : Int)) ∧ w'.cell? ⟨tb, j, none⟩ = some (.int .i64 bt) ∧ w'.cell? ⟨pb, 0, none⟩ = some (.int .i64 bl) ∧ w'.cell? ⟨pb, 1, none⟩ = some (.slice Al bc.length cl) ∧ w'.cell? ⟨hb, j * 2, none⟩ = some (.int .i64 bl) ∧ w'.cell? ⟨hb, j * 2 + 1, none⟩ = some (.slice (A' j) bc.length (c' j)) ∧ Below w2.heap.size w2 w') := fun W hW => by
                              refine (same10_eq bl Al (A' j) bc.length cl (c' j) bc W (hS2.below hW.2) (hev.below hW.2) (by omega)).mono ?_
                              rintro e w' ⟨h1, h2⟩
                              have hbb := hW.2.trans (h2.mono hW.2.size)
                              have hk : ∀ (a : Addr) v, w2.cell? a = some v → w'.cell? a = some v := fun a v h => (World.cell?_of_block (hbb.block _ (World.block_lt_of_cell? w2 a h))).trans h
                              exact ⟨h1, hk _ _ n0c, hk _ _ ntc, hk _ _ q0, hk _ _ q1, hk _ _ m0, hk _ _ m1, hbb⟩
                            have HSAME := Lib.hid (fun W (h : W.cell? ⟨rc, 0, none⟩ = some (.int .i64 (n0 : Int)) ∧ W.cell? ⟨tb, j, none⟩ = some (.int .i64 bt) ∧ W.cell? ⟨pb, 0, none⟩ = some (.int .i64 bl) ∧ W.cell? ⟨pb, 1, none⟩ = some (.slice Al bc.length cl) ∧ W.cell? ⟨hb, j * 2, none⟩ = some (.int .i64 bl) ∧ W.cell? ⟨hb, j * 2 + 1, none⟩ = some (.slice (A' j) bc.length (c' j)) ∧ Below w2.heap.size w2 W) => hsame W ⟨Nat.le_refl _, h.2.2.2.2.2.2⟩)
                            have HMN := Lib.hid hMn
                            have HHS := Lib.hid HS
                            have hbt : j = n0 → bt = t0 := fun e => by
                              have h := HV.out.2.2.2.2.2.2.2.2.2.1
                              rw [← e, hgj] at h
                              exact h.symm
                            clear hev hS2 hsame hMn hgj hfj n1c n2c n3c n4c n5c n6c hfew
                            by_cases hjn : j = n0
                            · have her0 : er ≠ 0 := by
                                rcases HT.out.2.1 with h | h
                                · exact absurd ⟨hjn, h⟩ hway
                                · exact h.2
                              first
                              | (exfalso; exact her0 HE.out.1)
                              | (have hbt2 := hbt hjn
                                 subst hbt2
                                 subst hjn
                                 have htt : (bt == bt + 1) = false := by rw [beq_eq_false_iff_ne]; omega
                                 clear hbt hway her0
                                 go_upto_region 26 with fail
                                 have HS := HHS.out
                                 go_region_held3 (fun w' => w'.cell? ⟨rc, 0, none⟩ = some (.int .i64 (j : Int)) ∧ w'.cell? ⟨tb, j, none⟩ = some (.int .i64 bt) ∧ w'.cell? ⟨pb, 0, none⟩ = some (.int .i64 bl) ∧ w'.cell? ⟨pb, 1, none⟩ = some (.slice Al bc.length cl) ∧ w'.cell? ⟨hb, j * 2, none⟩ = some (.int .i64 bl) ∧ w'.cell? ⟨hb, j * 2 + 1, none⟩ = some (.slice (A' j) bc.length (c' j)) ∧ Below w2.heap.size w2 w') ((exact HS)) (first
                                   | (go_at_call 24; go_must ((refine (HSAME.out _ (by assumption)).mono ?_); rintro e wq ⟨rfl, HS⟩)))
                                 all_goals
                                   have HMQ := Lib.hid (HMN.out.grow HS.2.2.2.2.2.2)
                                   go_wp2_with fail
                                   go_roundg (3 - (j + 1))
                                   case measure => omega
                                   case rel => exact ⟨j + 1, _, _, by omega, rfl, by go_num, HMQ.out⟩)
                            · have hjne : ((j : Int) == (n0 : Int)) = false := by rw [beq_eq_false_iff_ne]; omega
                              clear hway hbt
                              go_upto_region 26 with fail
                              refine wp_region_held_drew (S := fun w' => w'.cell? ⟨rc, 0, none⟩ = some (.int .i64 (n0 : Int)) ∧ w'.cell? ⟨tb, j, none⟩ = some (.int .i64 bt) ∧ w'.cell? ⟨pb, 0, none⟩ = some (.int .i64 bl) ∧ w'.cell? ⟨pb, 1, none⟩ = some (.slice Al bc.length cl) ∧ w'.cell? ⟨hb, j * 2, none⟩ = some (.int .i64 bl) ∧ w'.cell? ⟨hb, j * 2 + 1, none⟩ = some (.slice (A' j) bc.length (c' j)) ∧ Below w2.heap.size w2 w') (by kernel_rfl) HS (fun hHeld => ?_)
                              refine anyH_take (i := 0) (d := 146) (v := .int .i64 (j : Int)) rfl (by kernel_rfl) (by kernel_rfl) (by kernel_rfl) (fun _ _ _ h => h) rfl (by rfl) (fun w' hSw => by (try dsimp only at hSw); go_simp; first | done | with_reducible rfl) (by assumption) ?_
                              try simp only [List.setIfInBounds_toArray, List.set_cons_zero, List.set_cons_succ]
                              refine anyH_take (i := 1) (d := 147) (v := .pointer (some ⟨rc, 0, none⟩)) rfl (by kernel_rfl) (by kernel_rfl) (by kernel_rfl) (fun _ _ _ h => h) rfl (by rfl) (fun w' hSw => by (try dsimp only at hSw); go_simp; first | done | with_reducible rfl) (by assumption) ?_
                              try simp only [List.setIfInBounds_toArray, List.set_cons_zero, List.set_cons_succ]
                              refine anyH_take (i := 2) (d := 148) (v := .int .i64 (n0 : Int)) rfl (by kernel_rfl) (by kernel_rfl) (by kernel_rfl) (fun _ _ _ h => h) rfl (by rfl) (fun w' hSw => by (try dsimp only at hSw); go_simp; first | done | with_reducible rfl) (by assumption) ?_
                              try simp only [List.setIfInBounds_toArray, List.set_cons_zero, List.set_cons_succ]
                              refine anyH_take (i := 3) (d := 149) (v := .bool false) rfl (by kernel_rfl) (by kernel_rfl) (by kernel_rfl) (fun _ _ _ h => h) rfl (by rfl) (fun w' hSw => by (try dsimp only at hSw); go_simp; first | done | with_reducible rfl) (by assumption) ?_
                              try simp only [List.setIfInBounds_toArray, List.set_cons_zero, List.set_cons_succ]
                              refine anyH_take (i := 4) (d := 150) (v := .bool false) rfl (by kernel_rfl) (by kernel_rfl) (by kernel_rfl) (fun _ _ _ h => h) rfl (by rfl) (fun w' hSw => by (try dsimp only at hSw); go_simp; first | done | with_reducible rfl) (by assumption) ?_
                              try simp only [List.setIfInBounds_toArray, List.set_cons_zero, List.set_cons_succ]
                              refine anyH_skip (i := 5) (d := 151) rfl (by kernel_rfl) (by kernel_rfl) (by kernel_rfl) (fun _ _ _ h => h) rfl (by rfl) (by assumption) ?_
                              try simp only [List.setIfInBounds_toArray, List.set_cons_zero, List.set_cons_succ]
                              refine anyH_skip (i := 6) (d := 152) rfl (by kernel_rfl) (by kernel_rfl) (by kernel_rfl) (fun _ _ _ h => h) rfl (by rfl) (by assumption) ?_
                              try simp only [List.setIfInBounds_toArray, List.set_cons_zero, List.set_cons_succ]
                              refine anyH_take (i := 7) (d := 153) (v := .bool false) rfl (by kernel_rfl) (by kernel_rfl) (by kernel_rfl) (fun _ _ _ h => h) rfl (by rfl) (fun w' hSw => by (try dsimp only at hSw); go_simp; first | done | with_reducible rfl) (by assumption) ?_
                              try simp only [List.setIfInBounds_toArray, List.set_cons_zero, List.set_cons_succ]
                              refine anyH_take (i := 8) (d := 154) (v := .bool false) rfl (by kernel_rfl) (by kernel_rfl) (by kernel_rfl) (fun _ _ _ h => h) rfl (by rfl) (fun w' hSw => by (try dsimp only at hSw); go_simp; first | done | with_reducible rfl) (by assumption) ?_
                              try simp only [List.setIfInBounds_toArray, List.set_cons_zero, List.set_cons_succ]
                              refine anyH_take (i := 9) (d := 155) (v := .int .i64 bt) rfl (by kernel_rfl) (by kernel_rfl) (by kernel_rfl) (fun _ _ _ h => h) rfl (by rfl) (fun w' hSw => by (try dsimp only at hSw); go_simp; first | done | with_reducible rfl) (by assumption) ?_
                              try simp only [List.setIfInBounds_toArray, List.set_cons_zero, List.set_cons_succ]
                              refine anyH_take (i := 10) (d := 156) (v := .int .i64 (j : Int)) rfl (by kernel_rfl) (by kernel_rfl) (by kernel_rfl) (fun _ _ _ h => h) rfl (by rfl) (fun w' hSw => by (try dsimp only at hSw); go_simp; first | done | with_reducible rfl) (by assumption) ?_
                              try simp only [List.setIfInBounds_toArray, List.set_cons_zero, List.set_cons_succ]
                              refine anyH_take (i := 11) (d := 157) (v := .pointer (some ⟨tb, j, none⟩)) rfl (by kernel_rfl) (by kernel_rfl) (by kernel_rfl) (fun _ _ _ h => h) rfl (by rfl) (fun w' hSw => by (try dsimp only at hSw); go_simp; first | done | with_reducible rfl) (by assumption) ?_
                              try simp only [List.setIfInBounds_toArray, List.set_cons_zero, List.set_cons_succ]
                              refine anyH_take (i := 12) (d := 158) (v := .int .i64 bt) rfl (by kernel_rfl) (by kernel_rfl) (by kernel_rfl) (fun _ _ _ h => h) rfl (by rfl) (fun w' hSw => by (try dsimp only at hSw); go_simp; first | done | with_reducible rfl) (by assumption) ?_
                              try simp only [List.setIfInBounds_toArray, List.set_cons_zero, List.set_cons_succ]
                              refine anyH_take (i := 13) (d := 159) (v := .bool false) rfl (by kernel_rfl) (by kernel_rfl) (by kernel_rfl) (fun _ _ _ h => h) rfl (by rfl) (fun w' hSw => by (try dsimp only at hSw); go_simp; first | done | with_reducible rfl) (by assumption) ?_
                              try simp only [List.setIfInBounds_toArray, List.set_cons_zero, List.set_cons_succ]
                              refine anyH_take (i := 14) (d := 160) (v := .bool false) rfl (by kernel_rfl) (by kernel_rfl) (by kernel_rfl) (fun _ _ _ h => h) rfl (by rfl) (fun w' hSw => by (try dsimp only at hSw); go_simp; first | done | with_reducible rfl) (by assumption) ?_
                              try simp only [List.setIfInBounds_toArray, List.set_cons_zero, List.set_cons_succ]
                              refine anyH_take (i := 15) (d := 161) (v := .bool false) rfl (by kernel_rfl) (by kernel_rfl) (by kernel_rfl) (fun _ _ _ h => h) rfl (by rfl) (fun w' hSw => by (try dsimp only at hSw); go_simp; first | done | with_reducible rfl) (by assumption) ?_
                              try simp only [List.setIfInBounds_toArray, List.set_cons_zero, List.set_cons_succ]
                              refine anyH_take (i := 16) (d := 162) (v := pVal bl Al bc.length cl) rfl (by kernel_rfl) (by kernel_rfl) (by kernel_rfl) (fun _ _ _ h => h) rfl (by rfl) (fun w' hSw => by (try dsimp only at hSw); go_simp; first | done | with_reducible rfl) (by assumption) ?_
                              try simp only [List.setIfInBounds_toArray, List.set_cons_zero, List.set_cons_succ]
                              refine anyH_take (i := 17) (d := 163) (v := .int .i64 (j : Int)) rfl (by kernel_rfl) (by kernel_rfl) (by kernel_rfl) (fun _ _ _ h => h) rfl (by rfl) (fun w' hSw => by (try dsimp only at hSw); go_simp; first | done | with_reducible rfl) (by assumption) ?_
                              try simp only [List.setIfInBounds_toArray, List.set_cons_zero, List.set_cons_succ]
                              refine anyH_take (i := 18) (d := 164) (v := .pointer (some ⟨hb, j * 2, none⟩)) rfl (by kernel_rfl) (by kernel_rfl) (by kernel_rfl) (fun _ _ _ h => h) rfl (by rfl) (fun w' hSw => by (try dsimp only at hSw); go_simp; first | done | with_reducible rfl) (by assumption) ?_
                              try simp only [List.setIfInBounds_toArray, List.set_cons_zero, List.set_cons_succ]
                              refine anyH_take (i := 19) (d := 165) (v := pVal bl (A' j) bc.length (c' j)) rfl (by kernel_rfl) (by kernel_rfl) (by kernel_rfl) (fun _ _ _ h => h) rfl (by rfl) (fun w' hSw => by (try dsimp only at hSw); go_simp; first | done | with_reducible rfl) (by assumption) ?_
                              try simp only [List.setIfInBounds_toArray, List.set_cons_zero, List.set_cons_succ]
                              refine wpAnyH_ready (rs := [20]) (by kernel_rfl) (by simp) ?_
                              refine AllReadyH.cons rfl (fun K hK => ?_) AllReadyH.nil
                              go_simp
                              refine (HSAME.out _ (by assumption)).mono ?_
                              rintro e wq ⟨rfl, HS⟩
                              refine hK.out _ _ (by first | exact HS | (dsimp only; exact HS)) (fun hHeld => ?_)
                              clear hK K
                              try simp only [Act.put, List.setIfInBounds_toArray, List.set_cons_zero, List.set_cons_succ]
                              refine anyH_take (i := 21) (d := 167) (v := .bool false) rfl (by kernel_rfl) (by kernel_rfl) (by kernel_rfl) (fun _ _ _ h => h) rfl (by rfl) (fun w' hSw => by (try dsimp only at hSw); go_simp; first | done | with_reducible rfl) (by assumption) ?_
                              try simp only [List.setIfInBounds_toArray, List.set_cons_zero, List.set_cons_succ]
                              refine anyH_take (i := 22) (d := 168) (v := .bool false) rfl (by kernel_rfl) (by kernel_rfl) (by kernel_rfl) (fun _ _ _ h => h) rfl (by rfl) (fun w' hSw => by (try dsimp only at hSw); go_simp; first | done | with_reducible rfl) (by assumption) ?_
                              try simp only [List.setIfInBounds_toArray, List.set_cons_zero, List.set_cons_succ]
                              refine wpAnyH_done (by kernel_rfl) ?_ _
                              have HMQ := Lib.hid (HMN.out.grow HS.2.2.2.2.2.2)
                              go_wp2_with fail
                              go_roundg (3 - (j + 1))
                              case measure => omega
                              case rel => exact ⟨j + 1, _, _, by omega, rfl, by go_num, HMQ.out⟩
                        · obtain rfl : j = 3 := by omega
                          have hmx : mix f g 3 = f := mix_all (Nat.le_refl _) (fun n hn => HT.out.2.2.2 n (by omega))
                          rw [hmx] at hMj
                          have HJ := Lib.hid hMj
                          clear hMj
                          go_wp2_with fail
                          go_roundg (m - (i + 1))
                          case measure => omega
                          case rel => exact ⟨i + 1, by omega, rfl, by go_num, ⟨_, _, _, _, _, rfl, HT.out.1, HJ.out.unbox⟩⟩
        · have hways : decide (x.N < 0) = true ∨ decide (x.N < 0) = false ∧ decide (2 < x.N) = true := by
            simp only [decide_eq_true_eq, decide_eq_false_iff_not]; omega
          clear hN
          rcases hways with g | ⟨g, g2⟩
          all_goals
            go_wp2_with fail
            go_roundg (m - (i + 1))
            case measure => omega
            case rel => exact ⟨i + 1, by omega, rfl, by go_num, HB.out.2.1.next HB.out.1⟩
      · obtain rfl : i = m := by omega
        have HX := Lib.hid hX.below
        clear hA hX
        go_wp2_with fail
        refine (awake11_any wr).mono ?_
        rintro e w9 ⟨rfl, hb9⟩
        have H9 := Lib.hid (HX.out.trans (hb9.mono HX.out.size))
        clear hb9
        go_wp2_with fail
        go_ret
        exact ⟨rfl, H9.out⟩

theorem own : ownKnob Try.prog.godebug = none := by kernel_rfl
theorem laidOut : laidOutB Try.prog = true := by kernel_rfl
theorem params_ok : ∀ t ∈ Try.f14.params.toList, Try.prog.readableRec t = true ∧ t < Try.prog.types.size := by
  rw [Try.params14]
  intro t ht
  have ht' : t = 87 := by
    simpa using ht
  subst ht'
  exact ⟨(show Try.prog.readableRec 87 = true by kernel_rfl), of_decide_eq_true (show decide (87 < Try.prog.types.size) = true by kernel_rfl)⟩

set_option maxRecDepth 100000 in
theorem contract (H : Type) (enc : TypeId × Value → H) (W : World) (base : Nat) (args : Array Value) (ds gs : List (DataW H)) (before : List MemPlace)
    (hval : ∀ (j : Nat) t v, Try.f14.params[j]? = some t → args[j]? = some v → Value.okWide Try.prog W .any base t v)
    (hW : DataW.Whole enc Try.prog Try.f14.params.toList Rows.slotCrashesSpec.vars false W args.toList ds gs before) :
    Calls Try.prog 14 args W fun e W' => ∃ v, e = .returned v ∧ Rows.slotCrashesSpec.post enc Try.prog Try.f14 false true false false W args v W' := by
  have hW' := hW
  obtain ⟨p, q, hA0, hV, rfl, hfz, hnd⟩ := hW
  have hA : DataW.TrodAll enc Try.prog W 0 (fun _ => true) true Try.f14.params.toList args.toList ds p := hA0
  rw [Try.params14] at hA hval
  obtain ⟨v0, vs0, d0, ds0, p0, q0, hargs, rfl, rfl, h0, r0⟩ := trodAll_cons hA
  obtain ⟨rfl, rfl, rfl⟩ := trodAll_nil r0
  obtain rfl : args = #[v0] := by cases args; simp_all
  obtain ⟨rfl, rfl⟩ := trodVars_none hV
  obtain ⟨A0, n0, c0, l0, rfl, lh0, nc0, cm0⟩ := open_structs (K := savedK) Try.underlying87 (show Try.prog.cellsOf 91 = (savedK).k by kernel_rfl) (by decide) saved_cells (hval 0 87 v0 rfl rfl) h0
  refine (walk A0 n0 c0 l0 W lh0 nc0 cm0).mono fun e W' ⟨he, bel⟩ => ?_
  exact ⟨_, he, post_true laidOut Try.underlying4 (show Try.f14.resultTypes = #[4] from rfl) params_ok rfl hW' rfl bel⟩

theorem laid_met (os : Os) : laidMet Try.prog Rows.slotCrashesRow.laid ((World.holding Try.prog os ⟨#[], #[], []⟩).forCall (fun _ _ => 0) ⟨#[], #[.slice none 0 0], []⟩).memory :=
  laidMet_of_run' 8 (by kernel_rfl) (by kernel_rfl)
theorem reads (os : Os) {H : Type} (enc : TypeId × Value → H) : ∃ places, DataW.whole enc Try.prog ((World.holding Try.prog os ⟨#[], #[], []⟩).forCall (fun _ _ => 0) ⟨#[], #[.slice none 0 0], []⟩).memory Try.f14.params.toList Rows.slotCrashesSpec.vars false (#[Value.slice none 0 0] : Array Value).toList 8 = some ([.nil], [], places) :=
  ⟨[], by kernel_rfl⟩
set_option maxRecDepth 100000 in
theorem lifted (os : Os) (started : os.Started) (H : Type) (enc : TypeId × Value → H) (F : Stop.Interp) :
    ReturnsInHanded {} Try.checked os 14 .any ((OpenSpec.ofChange Rows.slotCrashesSpec).preRow enc Try.prog Try.f14 Rows.slotCrashesRow.domain false Rows.slotCrashesRow.laid) (((OpenSpec.ofChange Rows.slotCrashesSpec).at F).post enc Try.prog Try.f14 false true false false) := by
  obtain ⟨places, hx⟩ := reads os enc
  refine returnsInHanded_of_row (C := Try.checked) (s := OpenSpec.ofChange Rows.slotCrashesSpec) own started (by kernel_rfl) Try.func14
    (witness_row_at (enc := enc) (C := Try.checked) false (World.holding Try.prog os ⟨#[], #[], []⟩) #[.slice none 0 0] rfl (by kernel_rfl) (by kernel_rfl) (by kernel_rfl)
      (OpenSpec.preRow_of_cond 8 hx (by kernel_rfl) (fun k hk => by cases hk) (by kernel_rfl) (laid_met os))) ?_
  intro W base args ds gs before hval hW _ _ hsz hL _ _
  exact contract H enc W base args ds gs before hval hW
theorem said : Rows.SlotCrashesSaid :=
  OpenClaim.holds_of_cond 14 Try.f14 rfl rfl rfl rfl rfl rfl rfl ⟨rfl, rfl, rfl, rfl, rfl⟩ rfl rfl rfl rfl rfl (by kernel_rfl) Try.func14 (by kernel_rfl)
    (of_decide_eq_true (by kernel_rfl)) (by unfold Func.isWrapper; first | (rw [if_pos (by decide +kernel)]; kernel_rfl) | (rw [if_neg (by decide +kernel)]; exact ⟨rfl, rfl⟩))
    (fun os started H enc _ F => by rw [OpenClaim.pre_eq_preRow]; exact lifted os started H enc F)
#print axioms said
end Go.Proofs.Ytfcmlfcpgboigaa.slotCrashes
