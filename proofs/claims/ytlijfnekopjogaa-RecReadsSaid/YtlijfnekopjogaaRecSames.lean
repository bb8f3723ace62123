/- RecSames: joined out of RecSame1, RecSame2, RecSame3, RecSame4. -/
import Derived.Test.YtlijfnekopjogaaRecD0
import Derived.BigQuiet
import Derived.Deep.QuietTactic
/- The same numbers, the same locks, the same row: the document's. -/
namespace Go.Proofs.Ytlijfnekopjogaa
open Go Go.RowKit Mem Rc
set_option maxRecDepth 100000
set_option linter.unusedVariables false
set_option linter.unusedSimpArgs false

def TrueP (w : World) (e : Ending) (w' : World) : Prop := e = .returned (.bool true) ∧ Below w.heap.size w w'
def FalseP (w : World) (e : Ending) (w' : World) : Prop := e = .returned (.bool false) ∧ Below w.heap.size w w'
set_option maxHeartbeats 4000000 in
theorem sameInts_ne (A B : Option Addr) (n m c d : Nat) (w : World) (hne : n ≠ m) :
    Calls Try.prog 55 #[.slice A n c, .slice B m d] w (FalseP w) := by
  have hb : ((n : Int) != (m : Int)) = true := by rw [bne_iff_ne]; omega
  clear hne
  go_enter Try.func55, Try.ntmps55
  go_wp2
  go_ret
  exact ⟨rfl, Below.refl _ _⟩
set_option maxHeartbeats 4000000 in
theorem sameLocks_ne (A B : Option Addr) (n m c d : Nat) (w : World) (hne : n ≠ m) :
    Calls Try.prog 56 #[.slice A n c, .slice B m d] w (FalseP w) := by
  have hb : ((n : Int) != (m : Int)) = true := by rw [bne_iff_ne]; omega
  clear hne
  go_enter Try.func56, Try.ntmps56
  go_wp2
  go_ret
  exact ⟨rfl, Below.refl _ _⟩
set_option maxHeartbeats 4000000 in
theorem sameInts_eq (A B : Option Addr) (n c d : Nat) (l : List Int) (w : World) (ha : IS w A n l) (hb : IS w B n l) (hn : n ≤ 1000000) :
    Calls Try.prog 55 #[.slice A n c, .slice B n d] w (TrueP w) := by
  have H := Lib.hid (And.intro ha (And.intro hb hn))
  clear ha hb hn
  go_enter Try.func55, Try.ntmps55
  go_wp2
  go_loopg [4, 5] n (fun gk s i wr => ∃ k : Nat, k ≤ n ∧ gk = n - k ∧ s = .bool false ∧ i = .int .i64 k ∧ Below w.heap.size w wr)
  case atStart => exact ⟨0, by omega, by omega, rfl, rfl, Below.refl _ _⟩
  case round =>
    obtain ⟨k, hk, rfl, rfl, rfl, hst⟩ := hrel
    by_cases hlt : k < n
    · obtain ⟨ba, oa, rfl, ca⟩ := (H.out.1.below hst).at_ hlt
      obtain ⟨bb, ob, rfl, cb⟩ := (H.out.2.1.below hst).at_ hlt
      have hki : (k : Int) < (n : Int) := by omega
      have HS := Lib.hid hst
      clear hst
      have ca' : wr.drew.cell? ⟨ba, oa + k, none⟩ = some (.int .i64 (l.getD k 0)) := ca
      have cb' : wr.drew.cell? ⟨bb, ob + k, none⟩ = some (.int .i64 (l.getD k 0)) := cb
      generalize l.getD k 0 = x at *
      go_wp2
      go_quiet (fail)
      go_wp2
      go_roundg (n - (k + 1))
      case rel =>
        have hmb := H.out.2.2
        exact ⟨k + 1, by omega, by omega, rfl, congrArg (Value.int .i64) (by unfold wrap64; omega), ⟨HS.out.os, HS.out.tape, HS.out.output, HS.out.size, HS.out.block⟩⟩
      case measure => omega
    · obtain rfl : k = n := by omega
      have HS := Lib.hid hst
      clear hst
      go_wp2
      go_ret
      exact ⟨rfl, HS.out⟩
set_option maxHeartbeats 4000000 in
theorem sameLocks_eq (A B : Option Addr) (n c d : Nat) (l : List L) (w : World) (ha : ST lockK w A n l) (hb : ST lockK w B n l) (hn : n ≤ 1000000) :
    Calls Try.prog 56 #[.slice A n c, .slice B n d] w (TrueP w) := by
  have H := Lib.hid (And.intro ha (And.intro hb hn))
  clear ha hb hn
  go_enter Try.func56, Try.ntmps56
  go_wp2
  go_loopg [4, 5] n (fun gk s i wr => ∃ k : Nat, k ≤ n ∧ gk = n - k ∧ s = .bool false ∧ i = .int .i64 k ∧ Below w.heap.size w wr)
  case atStart => exact ⟨0, by omega, by omega, rfl, rfl, Below.refl _ _⟩
  case round =>
    obtain ⟨k, hk, rfl, rfl, rfl, hst⟩ := hrel
    by_cases hlt : k < n
    · obtain ⟨ba, oa, rfl, _, ca0, ca1⟩ := lock_at (H.out.1.below hst) hlt
      obtain ⟨bb, ob, rfl, _, cb0, cb1⟩ := lock_at (H.out.2.1.below hst) hlt
      have hki : (k : Int) < (n : Int) := by omega
      have HS := Lib.hid hst
      clear hst
      have ca0' : wr.drew.cell? ⟨ba, oa + k * 2, none⟩ = some (.string (l.getD k L.zero).key) := ca0
      have ca1' : wr.drew.cell? ⟨ba, oa + k * 2 + 1, none⟩ = some (.bool (l.getD k L.zero).x) := ca1
      have cb0' : wr.drew.cell? ⟨bb, ob + k * 2, none⟩ = some (.string (l.getD k L.zero).key) := cb0
      have cb1' : wr.drew.cell? ⟨bb, ob + k * 2 + 1, none⟩ = some (.bool (l.getD k L.zero).x) := cb1
      generalize l.getD k L.zero = x at *
      obtain ⟨xk, xx⟩ := x
      simp only at ca0 ca1 cb0 cb1 ca0' ca1' cb0' cb1'
      go_wp2
      go_quiet (fail)
      go_wp2
      go_roundg (n - (k + 1))
      case rel =>
        have hmb := H.out.2.2
        exact ⟨k + 1, by omega, by omega, rfl, congrArg (Value.int .i64) (by unfold wrap64; omega), ⟨HS.out.os, HS.out.tape, HS.out.output, HS.out.size, HS.out.block⟩⟩
      case measure => omega
    · obtain rfl : k = n := by omega
      have HS := Lib.hid hst
      clear hst
      go_wp2
      go_ret
      exact ⟨rfl, HS.out⟩
end Go.Proofs.Ytlijfnekopjogaa

/- The same row, the same record: the document's, of two that are the same. -/
namespace Go.Proofs.Ytlijfnekopjogaa
open Go Go.RowKit Mem Rc
set_option maxRecDepth 100000
set_option linter.unusedVariables false
set_option linter.unusedSimpArgs false

set_option maxHeartbeats 8000000 in
theorem sameRow_core (tx st fi la un co : Int) (mem : List Int) (locks : List L) (n m : Nat) (mA : Option Addr) (mc : Nat) (lA : Option Addr) (lc : Nat) (mB : Option Addr) (md : Nat) (lB : Option Addr) (ld : Nat) (w : World)
    (h1 : IS w mA n mem) (h2 : IS w mB n mem) (h3 : ST lockK w lA m locks) (h4 : ST lockK w lB m locks) (hm : n ≤ 1000000) (hl : m ≤ 1000000) :
    Calls Try.prog 96 #[.agg #[.int .i64 tx, .int .i64 st, .int .i64 fi, .int .i64 la, .int .i64 un, .int .i64 co, .slice mA n mc, .slice lA m lc], .agg #[.int .i64 tx, .int .i64 st, .int .i64 fi, .int .i64 la, .int .i64 un, .int .i64 co, .slice mB n md, .slice lB m ld]] w (TrueP w) := by
  obtain ⟨W, hW⟩ : ∃ W, (w.alloc (.cells #[.int .i64 tx, .int .i64 st, .int .i64 fi, .int .i64 la, .int .i64 un, .int .i64 co, .slice mA n mc, .slice lA m lc] 52)).alloc (.cells #[.int .i64 tx, .int .i64 st, .int .i64 fi, .int .i64 la, .int .i64 un, .int .i64 co, .slice mB n md, .slice lB m ld] 52) = W := ⟨_, rfl⟩
  have hb : Below w.heap.size w W := by rw [← hW]; exact ((Below.refl _ _).alloc (Nat.le_refl _) _).alloc (by simp) _
  have ha1 : Blk W w.heap.size 52 #[.int .i64 tx, .int .i64 st, .int .i64 fi, .int .i64 la, .int .i64 un, .int .i64 co, .slice mA n mc, .slice lA m lc] := by rw [← hW]; exact (Blk.new _ _ _).alloc _
  have ha2 : Blk W (w.heap.size + 1) 52 #[.int .i64 tx, .int .i64 st, .int .i64 fi, .int .i64 la, .int .i64 un, .int .i64 co, .slice mB n md, .slice lB m ld] := by
    rw [← hW]
    have := Blk.new (w.alloc (.cells #[.int .i64 tx, .int .i64 st, .int .i64 fi, .int .i64 la, .int .i64 un, .int .i64 co, .slice mA n mc, .slice lA m lc] 52)) 52 #[.int .i64 tx, .int .i64 st, .int .i64 fi, .int .i64 la, .int .i64 un, .int .i64 co, .slice mB n md, .slice lB m ld]
    rwa [show (w.alloc (.cells #[.int .i64 tx, .int .i64 st, .int .i64 fi, .int .i64 la, .int .i64 un, .int .i64 co, .slice mA n mc, .slice lA m lc] 52)).heap.size = w.heap.size + 1 by simp] at this
  have c0 := ha1.cell 0
  have d0 := ha2.cell 0
  have c1 := ha1.cell 1
  have d1 := ha2.cell 1
  have c2 := ha1.cell 2
  have d2 := ha2.cell 2
  have c3 := ha1.cell 3
  have d3 := ha2.cell 3
  have c4 := ha1.cell 4
  have d4 := ha2.cell 4
  have c5 := ha1.cell 5
  have d5 := ha2.cell 5
  have c6 := ha1.cell 6
  have d6 := ha2.cell 6
  have c7 := ha1.cell 7
  have d7 := ha2.cell 7
  simp only [List.getElem?_toArray, List.getElem?_cons_zero, List.getElem?_cons_succ] at c0 d0 c1 d1 c2 d2 c3 d3 c4 d4 c5 d5 c6 d6 c7 d7
  have H := Lib.hid (And.intro (h1.below hb) (And.intro (h2.below hb) (And.intro (h3.below hb) (And.intro (h4.below hb) (And.intro hm (And.intro hl (And.intro hb (And.intro ha1 ha2))))))))
  clear h1 h2 h3 h4 hm hl hb ha1 ha2
  go_enter Try.func96, Try.ntmps96
  go_wp2_with fail
  refine (sameInts_eq mA mB n mc md mem _ H.out.1 H.out.2.1 H.out.2.2.2.2.1).mono ?_
  rintro e w1 ⟨rfl, hb1⟩
  have e6 := (H.out.2.2.2.2.2.2.2.1.below hb1 H.out.2.2.2.2.2.2.2.1.lt).cell 7
  have e7 := (H.out.2.2.2.2.2.2.2.2.below hb1 H.out.2.2.2.2.2.2.2.2.lt).cell 7
  simp only [List.getElem?_toArray, List.getElem?_cons_zero, List.getElem?_cons_succ] at e6 e7
  have H1 := Lib.hid hb1
  clear hb1
  go_wp2_with fail
  refine (sameLocks_eq lA lB m lc ld locks _ (H.out.2.2.1.below H1.out) (H.out.2.2.2.1.below H1.out) H.out.2.2.2.2.2.1).mono ?_
  rintro e w2 ⟨rfl, hb2⟩
  have H2 := Lib.hid hb2
  clear hb2
  go_wp2_with fail
  go_ret
  exact ⟨rfl, H.out.2.2.2.2.2.2.1.trans ((H1.out.trans (H2.out.mono H1.out.size)).mono H.out.2.2.2.2.2.2.1.size)⟩
theorem sameRow_eq (x y : RwD) (hxy : x.r = y.r) (w : World) (hx : RowOk w x) (hy : RowOk w y) (hm : x.r.mem.length ≤ 1000000) (hl : x.r.locks.length ≤ 1000000) :
    Calls Try.prog 96 #[rwVal x, rwVal y] w (TrueP w) := by
  obtain ⟨r, mA, mc, lA, lc⟩ := x
  obtain ⟨r', mB, md, lB, ld⟩ := y
  have hxy : r = r' := hxy
  subst hxy
  exact sameRow_core r.tx r.st r.fi r.la r.un r.co r.mem r.locks r.mem.length r.locks.length mA mc lA lc mB md lB ld w hx.mem hy.mem hx.locks hy.locks hm hl
end Go.Proofs.Ytlijfnekopjogaa

/- The same lists of a checkpoint, of two that are the same. -/
namespace Go.Proofs.Ytlijfnekopjogaa
open Go Go.RowKit Mem Rc
set_option maxRecDepth 100000
set_option linter.unusedVariables false
set_option linter.unusedSimpArgs false

theorem getD_map {α β : Type} (f : α → β) (l : List α) (k : Nat) (z : α) (h : k < l.length) (zz : β) : (l.map f).getD k zz = f (l.getD k z) := by
  rw [List.getD_eq_getElem?_getD, List.getElem?_map, List.getElem?_eq_getElem h, List.getD_eq_getElem?_getD, List.getElem?_eq_getElem h]
  rfl
/-- two that are the same, boxed -/
structure S2 (w W : World) (x y : MD) : Prop where
  hb : Below w.heap.size w W
  bx : Blk W w.heap.size 30 (mCells x)
  by_ : Blk W (w.heap.size + 1) 30 (mCells y)
  okx : MOk W x
  oky : MOk W y
  sm : Small x
  eq : x.m = y.m
theorem S2.mk' (w : World) (x y : MD) (hx : MOk w x) (hy : MOk w y) (hs : Small x) (he : x.m = y.m) : ∃ W, (w.alloc (.cells (mCells x) 30)).alloc (.cells (mCells y) 30) = W ∧ S2 w W x y := by
  refine ⟨_, rfl, ?_⟩
  have hb : Below w.heap.size w ((w.alloc (.cells (mCells x) 30)).alloc (.cells (mCells y) 30)) := ((Below.refl _ _).alloc (Nat.le_refl _) _).alloc (by simp) _
  refine ⟨hb, (Blk.new _ _ _).alloc _, ?_, hx.below hb, hy.below hb, hs, he⟩
  have := Blk.new (w.alloc (.cells (mCells x) 30)) 30 (mCells y)
  rwa [show (w.alloc (.cells (mCells x) 30)).heap.size = w.heap.size + 1 by simp] at this
section
variable {w W : World} {x y : MD}
theorem S2.rlen (h : S2 w W x y) : y.rows.length = x.rows.length := by
  have e := congrArg (fun m : M => m.rows.length) h.eq
  have e1 : x.m.rows.length = x.rows.length := List.length_map _
  have e2 : y.m.rows.length = y.rows.length := List.length_map _
  simp only [e1, e2] at e
  exact e.symm
theorem S2.elen (h : S2 w W x y) : y.deeds.length = x.deeds.length := by
  have e := congrArg (fun m : M => m.deeds.length) h.eq
  have e1 : x.m.deeds.length = x.deeds.length := List.length_map _
  have e2 : y.m.deeds.length = y.deeds.length := List.length_map _
  simp only [e1, e2] at e
  exact e.symm
theorem S2.dirty (h : S2 w W x y) : y.dirty = x.dirty := (congrArg M.dirty h.eq).symm
theorem S2.past (h : S2 w W x y) : y.past = x.past := (congrArg M.past h.eq).symm
theorem S2.row (h : S2 w W x y) {k : Nat} (hk : k < x.rows.length) : (x.rows.getD k RwD.zero).r = (y.rows.getD k RwD.zero).r := by
  have e : x.rows.map RwD.r = y.rows.map RwD.r := congrArg M.rows h.eq
  have := congrArg (fun l : List Rw => l.getD k Rw.zero) e
  rwa [getD_map RwD.r x.rows k RwD.zero hk Rw.zero, getD_map RwD.r y.rows k RwD.zero (by rw [h.rlen]; exact hk) Rw.zero] at this
theorem S2.deed (h : S2 w W x y) {k : Nat} (hk : k < x.deeds.length) : (x.deeds.getD k DeD.zero).d = (y.deeds.getD k DeD.zero).d := by
  have e : x.deeds.map DeD.d = y.deeds.map DeD.d := congrArg M.deeds h.eq
  have := congrArg (fun l : List De => l.getD k De.zero) e
  rwa [getD_map DeD.d x.deeds k DeD.zero hk De.zero, getD_map DeD.d y.deeds k DeD.zero (by rw [h.elen]; exact hk) De.zero] at this
end
set_option maxHeartbeats 8000000 in
theorem sameLists_eq (x y : MD) (w : World) (hx : MOk w x) (hy : MOk w y) (hs : Small x) (he : x.m = y.m) :
    Calls Try.prog 57 #[mVal x, mVal y] w (TrueP w) := by
  obtain ⟨W, hW, h2⟩ := S2.mk' w x y hx hy hs he
  obtain ⟨nr, hnr⟩ : ∃ nr, x.rows.length = nr := ⟨_, rfl⟩
  obtain ⟨nd, hnd⟩ : ∃ nd, x.dirty.length = nd := ⟨_, rfl⟩
  obtain ⟨ne, hne⟩ : ∃ ne, x.deeds.length = ne := ⟨_, rfl⟩
  obtain ⟨np, hnp⟩ : ∃ np, x.past.length = np := ⟨_, rfl⟩
  have hcx : ∀ wr, Below W.heap.size W wr → wr.cell? ⟨w.heap.size, 12, none⟩ = some (.slice x.rA nr x.rc) ∧ wr.cell? ⟨w.heap.size, 13, none⟩ = some (.slice x.dA nd x.dc) ∧ wr.cell? ⟨w.heap.size, 14, none⟩ = some (.slice x.eA ne x.ec) ∧ wr.cell? ⟨w.heap.size, 15, none⟩ = some (.slice x.pA np x.pc) := fun wr hb => by
    have g := h2.bx.below hb h2.bx.lt
    refine ⟨(g.cell 12).trans (by rw [← hnr]; rfl), (g.cell 13).trans (by rw [← hnd]; rfl), (g.cell 14).trans (by rw [← hne]; rfl), (g.cell 15).trans (by rw [← hnp]; rfl)⟩
  have hcy : ∀ wr, Below W.heap.size W wr → wr.cell? ⟨w.heap.size + 1, 12, none⟩ = some (.slice y.rA nr y.rc) ∧ wr.cell? ⟨w.heap.size + 1, 13, none⟩ = some (.slice y.dA nd y.dc) ∧ wr.cell? ⟨w.heap.size + 1, 14, none⟩ = some (.slice y.eA ne y.ec) ∧ wr.cell? ⟨w.heap.size + 1, 15, none⟩ = some (.slice y.pA np y.pc) := fun wr hb => by
    have g := h2.by_.below hb h2.by_.lt
    refine ⟨(g.cell 12).trans (by rw [← hnr, ← h2.rlen]; rfl), (g.cell 13).trans (by rw [← hnd, ← h2.dirty]; rfl), (g.cell 14).trans (by rw [← hne, ← h2.elen]; rfl), (g.cell 15).trans (by rw [← hnp, ← h2.past]; rfl)⟩
  have H := Lib.hid (And.intro h2 (And.intro hcx (And.intro hcy (And.intro hnr (And.intro hnd (And.intro hne hnp))))))
  obtain ⟨x12, x13, x14, x15⟩ := hcx W (Below.refl _ _)
  obtain ⟨y12, y13, y14, y15⟩ := hcy W (Below.refl _ _)
  clear hcx hcy h2 hx hy hs he hnr hnd hne hnp
  go_enter Try.func57, Try.ntmps57
  go_wp2_with fail
  refine (sameInts_eq x.pA y.pA np x.pc y.pc x.past _ (by rw [← H.out.2.2.2.2.2.2]; exact H.out.1.okx.past) (by have g := H.out.1.oky.past; rw [H.out.1.past] at g; rw [← H.out.2.2.2.2.2.2]; exact g) (by rw [← H.out.2.2.2.2.2.2]; exact H.out.1.sm.past)).mono ?_
  rintro e w1 ⟨rfl, hb1⟩
  have H1 := Lib.hid hb1
  clear hb1 x12 x13 x14 x15 y12 y13 y14 y15
  go_wp2_with fail
  go_loopg [4, 5] nr (fun gk s i wr => ∃ k : Nat, k ≤ nr ∧ gk = nr - k ∧ s = .bool false ∧ i = .int .i64 k ∧ Below W.heap.size W wr)
  case atStart => exact ⟨0, by omega, by omega, rfl, rfl, H1.out⟩
  case round =>
    obtain ⟨k, hk, rfl, rfl, rfl, hst⟩ := hrel
    clear H1
    by_cases hlt : k < nr
    · have hkr : k < x.rows.length := by rw [H.out.2.2.2.1]; exact hlt
      have hkr2 : k < y.rows.length := by rw [H.out.1.rlen]; exact hkr
      obtain ⟨ba, oa, hA, _, a0, a1, a2, a3, a4, a5, a6, a7, aok⟩ := row_at (H.out.1.okx.below hst).rows hkr
      obtain ⟨bb, ob, hB, _, b0, b1, b2, b3, b4, b5, b6, b7, bok⟩ := row_at (H.out.1.oky.below hst).rows hkr2
      have hrow := H.out.1.row hkr
      have hsm := H.out.1.sm.row k hkr
      obtain ⟨x12, _, _, _⟩ := H.out.2.1 wr.drew hst.drew
      obtain ⟨y12, _, _, _⟩ := H.out.2.2.1 wr.drew hst.drew
      obtain ⟨z12, _, _, _⟩ := H.out.2.1 wr hst
      rw [hA] at x12 z12
      rw [hB] at y12
      have hki : (k : Int) < (nr : Int) := by omega
      have hc := sameRow_eq (x.rows.getD k RwD.zero) (y.rows.getD k RwD.zero) hrow wr.drew (rowK.keep aok (Below.refl _ _).drew) (rowK.keep bok (Below.refl _ _).drew) hsm.1 hsm.2
      generalize x.rows.getD k RwD.zero = xr at *
      generalize y.rows.getD k RwD.zero = yr at *
      have HC := Lib.hid hc
      have HS := Lib.hid (And.intro hst (And.intro hA hB))
      have ad0 : wr.drew.cell? ⟨ba, oa + k * 8, none⟩ = some (.int .i64 xr.r.tx) := a0
      have ad1 : wr.drew.cell? ⟨ba, oa + k * 8 + 1, none⟩ = some (.int .i64 xr.r.st) := a1
      have ad2 : wr.drew.cell? ⟨ba, oa + k * 8 + 2, none⟩ = some (.int .i64 xr.r.fi) := a2
      have ad3 : wr.drew.cell? ⟨ba, oa + k * 8 + 3, none⟩ = some (.int .i64 xr.r.la) := a3
      have ad4 : wr.drew.cell? ⟨ba, oa + k * 8 + 4, none⟩ = some (.int .i64 xr.r.un) := a4
      have ad5 : wr.drew.cell? ⟨ba, oa + k * 8 + 5, none⟩ = some (.int .i64 xr.r.co) := a5
      have ad6 : wr.drew.cell? ⟨ba, oa + k * 8 + 6, none⟩ = some (.slice xr.mA xr.r.mem.length xr.mc) := a6
      have ad7 : wr.drew.cell? ⟨ba, oa + k * 8 + 7, none⟩ = some (.slice xr.lA xr.r.locks.length xr.lc) := a7
      have bd0 : wr.drew.cell? ⟨bb, ob + k * 8, none⟩ = some (.int .i64 yr.r.tx) := b0
      have bd1 : wr.drew.cell? ⟨bb, ob + k * 8 + 1, none⟩ = some (.int .i64 yr.r.st) := b1
      have bd2 : wr.drew.cell? ⟨bb, ob + k * 8 + 2, none⟩ = some (.int .i64 yr.r.fi) := b2
      have bd3 : wr.drew.cell? ⟨bb, ob + k * 8 + 3, none⟩ = some (.int .i64 yr.r.la) := b3
      have bd4 : wr.drew.cell? ⟨bb, ob + k * 8 + 4, none⟩ = some (.int .i64 yr.r.un) := b4
      have bd5 : wr.drew.cell? ⟨bb, ob + k * 8 + 5, none⟩ = some (.int .i64 yr.r.co) := b5
      have bd6 : wr.drew.cell? ⟨bb, ob + k * 8 + 6, none⟩ = some (.slice yr.mA yr.r.mem.length yr.mc) := b6
      have bd7 : wr.drew.cell? ⟨bb, ob + k * 8 + 7, none⟩ = some (.slice yr.lA yr.r.locks.length yr.lc) := b7
      clear hrow hsm aok bok hc hst hA hB a0 a1 a2 a3 a4 a5 a6 a7 b0 b1 b2 b3 b4 b5 b6 b7
      go_wp2_with fail
      go_still_tail 10, (by kernel_rfl)
      go_wp2_with fail
      refine HC.out.mono ?_
      rintro e w2 ⟨rfl, hb2⟩
      have H2 := Lib.hid (HS.out.1.drew.trans (hb2.mono HS.out.1.drew.size))
      clear hb2
      go_wp2
      go_roundg (nr - (k + 1))
      case rel =>
        have hmb := H.out.1.sm.rows
        have hnr := H.out.2.2.2.1
        exact ⟨k + 1, by omega, by omega, rfl, congrArg (Value.int .i64) (by unfold wrap64; omega), H2.out⟩
      case measure => omega
    · obtain rfl : k = nr := by omega
      obtain ⟨x12, x13, x14, x15⟩ := H.out.2.1 wr hst
      have HS := Lib.hid hst
      clear hst
      go_wp2_with fail
      clear x12 x13 x14 x15
      go_loopg [4, 6] nd (fun gk s i wr => ∃ k : Nat, k ≤ nd ∧ gk = nd - k ∧ s = .bool false ∧ i = .int .i64 k ∧ Below W.heap.size W wr)
      case atStart => exact ⟨0, by omega, by omega, rfl, rfl, HS.out⟩
      case round =>
        obtain ⟨k2, hk2, rfl, rfl, rfl, hst⟩ := hrel
        clear HS
        by_cases hlt2 : k2 < nd
        · have hkd : k2 < x.dirty.length := by rw [H.out.2.2.2.2.1]; exact hlt2
          obtain ⟨ba, oa, hA, _, a0, a1⟩ := dirty_at (H.out.1.okx.below hst).dirty hkd
          obtain ⟨bb, ob, hB, _, b0, b1⟩ := dirty_at (by have g := (H.out.1.oky.below hst).dirty; rw [H.out.1.dirty] at g; exact g) hkd
          obtain ⟨_, x13, _, _⟩ := H.out.2.1 wr.drew hst.drew
          obtain ⟨_, y13, _, _⟩ := H.out.2.2.1 wr.drew hst.drew
          obtain ⟨_, z13, _, _⟩ := H.out.2.1 wr hst
          obtain ⟨_, v13, _, _⟩ := H.out.2.2.1 wr hst
          rw [hA] at x13 z13
          rw [hB] at y13 v13
          have hki : (k2 : Int) < (nd : Int) := by omega
          generalize x.dirty.getD k2 D.zero = xd at *
          have HS := Lib.hid hst
          have ad0 : wr.drew.cell? ⟨ba, oa + k2 * 2, none⟩ = some (.int .i64 xd.page) := a0
          have ad1 : wr.drew.cell? ⟨ba, oa + k2 * 2 + 1, none⟩ = some (.int .i64 xd.rc) := a1
          have bd0 : wr.drew.cell? ⟨bb, ob + k2 * 2, none⟩ = some (.int .i64 xd.page) := b0
          have bd1 : wr.drew.cell? ⟨bb, ob + k2 * 2 + 1, none⟩ = some (.int .i64 xd.rc) := b1
          clear hst hA hB
          go_wp2
          go_quiet (fail)
          go_wp2
          go_roundg (nd - (k2 + 1))
          case rel =>
            have hmb := H.out.1.sm.dirty
            have hnr := H.out.2.2.2.2.1
            exact ⟨k2 + 1, by omega, by omega, rfl, congrArg (Value.int .i64) (by unfold wrap64; omega), ⟨HS.out.os, HS.out.tape, HS.out.output, HS.out.size, HS.out.block⟩⟩
          case measure => omega
        · obtain rfl : k2 = nd := by omega
          obtain ⟨x12, x13, x14, x15⟩ := H.out.2.1 wr hst
          have HS := Lib.hid hst
          clear hst
          go_wp2_with fail
          clear x12 x13 x14 x15
          go_loopg [4, 7] ne (fun gk s i wr => ∃ k : Nat, k ≤ ne ∧ gk = ne - k ∧ s = .bool false ∧ i = .int .i64 k ∧ Below W.heap.size W wr)
          case atStart => exact ⟨0, by omega, by omega, rfl, rfl, HS.out⟩
          case round =>
            obtain ⟨k3, hk3, rfl, rfl, rfl, hst⟩ := hrel
            clear HS
            by_cases hlt3 : k3 < ne
            · have hke : k3 < x.deeds.length := by rw [H.out.2.2.2.2.2.1]; exact hlt3
              have hke2 : k3 < y.deeds.length := by rw [H.out.1.elen]; exact hke
              obtain ⟨ba, oa, hA, _, a0, a1, aok⟩ := deed_at (H.out.1.okx.below hst).deeds hke
              obtain ⟨bb, ob, hB, _, b0, b1, bok⟩ := deed_at (H.out.1.oky.below hst).deeds hke2
              have hdeed := H.out.1.deed hke
              have hsm := H.out.1.sm.deed k3 hke
              obtain ⟨_, _, x14, _⟩ := H.out.2.1 wr.drew hst.drew
              obtain ⟨_, _, y14, _⟩ := H.out.2.2.1 wr.drew hst.drew
              obtain ⟨_, _, z14, _⟩ := H.out.2.1 wr hst
              rw [hA] at x14 z14
              rw [hB] at y14
              have hki : (k3 : Int) < (ne : Int) := by omega
              have aim : IS wr.drew (x.deeds.getD k3 DeD.zero).mA (x.deeds.getD k3 DeD.zero).d.mem.length (x.deeds.getD k3 DeD.zero).d.mem := IS.below (DeedOk.mem aok) (Below.refl _ _).drew
              have bim : IS wr.drew (y.deeds.getD k3 DeD.zero).mA (y.deeds.getD k3 DeD.zero).d.mem.length (y.deeds.getD k3 DeD.zero).d.mem := IS.below (DeedOk.mem bok) (Below.refl _ _).drew
              generalize x.deeds.getD k3 DeD.zero = xe at *
              generalize y.deeds.getD k3 DeD.zero = ye at *
              obtain ⟨xd, xA, xc⟩ := xe
              obtain ⟨yd, yA, yc⟩ := ye
              obtain rfl : xd = yd := hdeed
              simp only at a0 a1 b0 b1 aim bim hsm
              obtain ⟨nm, hnm⟩ : ∃ nm, xd.mem.length = nm := ⟨_, rfl⟩
              rw [hnm] at a1 b1 aim bim hsm
              have HC := Lib.hid (sameInts_eq xA yA nm xc yc xd.mem wr.drew aim bim hsm)
              have HS := Lib.hid hst
              have ad0 : wr.drew.cell? ⟨ba, oa + k3 * 2, none⟩ = some (.int .i64 xd.tx) := a0
              have ad1 : wr.drew.cell? ⟨ba, oa + k3 * 2 + 1, none⟩ = some (.slice xA nm xc) := a1
              have bd0 : wr.drew.cell? ⟨bb, ob + k3 * 2, none⟩ = some (.int .i64 xd.tx) := b0
              have bd1 : wr.drew.cell? ⟨bb, ob + k3 * 2 + 1, none⟩ = some (.slice yA nm yc) := b1
              clear hst hA hB aim bim hsm aok bok a0 a1 b0 b1 hnm
              go_wp2_with fail
              go_still_tail 26, (by kernel_rfl)
              go_wp2_with fail
              refine HC.out.mono ?_
              rintro e w2 ⟨rfl, hb2⟩
              have H2 := Lib.hid (HS.out.drew.trans (hb2.mono HS.out.drew.size))
              clear hb2
              go_wp2
              go_roundg (ne - (k3 + 1))
              case rel =>
                have hmb := H.out.1.sm.deeds
                have hnr := H.out.2.2.2.2.2.1
                exact ⟨k3 + 1, by omega, by omega, rfl, congrArg (Value.int .i64) (by unfold wrap64; omega), H2.out⟩
              case measure => omega
            · obtain rfl : k3 = ne := by omega
              obtain ⟨x12, x13, x14, x15⟩ := H.out.2.1 wr hst
              have HS := Lib.hid hst
              clear hst
              go_wp2
              go_ret
              exact ⟨rfl, H.out.1.hb.trans (HS.out.mono H.out.1.hb.size)⟩
end Go.Proofs.Ytlijfnekopjogaa

/- The same record, of two that are the same. -/
namespace Go.Proofs.Ytlijfnekopjogaa
open Go Go.RowKit Mem Rc
set_option maxRecDepth 100000
set_option linter.unusedVariables false
set_option linter.unusedSimpArgs false

set_option maxHeartbeats 8000000 in
theorem same07_eq (x y : MD) (w : World) (hx : MOk w x) (hy : MOk w y) (hs : Small x) (he : x.m = y.m) :
    Calls Try.prog 19 #[mVal x, mVal y] w (TrueP w) := by
  obtain ⟨W, hW, h2⟩ := S2.mk' w x y hx hy hs he
  obtain ⟨nm, hnm⟩ : ∃ nm, x.mem.length = nm := ⟨_, rfl⟩
  obtain ⟨nl, hnl⟩ : ∃ nl, x.locks.length = nl := ⟨_, rfl⟩
  have q0 : y.kind = x.kind := (congrArg M.kind he).symm
  have q1 : y.tx = x.tx := (congrArg M.tx he).symm
  have q2 : y.prev = x.prev := (congrArg M.prev he).symm
  have q3 : y.nxt = x.nxt := (congrArg M.nxt he).symm
  have q4 : y.key = x.key := (congrArg M.key he).symm
  have q5 : y.old = x.old := (congrArg M.old he).symm
  have q6 : y.new = x.new := (congrArg M.new he).symm
  have q7 : y.coord = x.coord := (congrArg M.coord he).symm
  have q8 : y.mem = x.mem := (congrArg M.mem he).symm
  have q9 : y.locks = x.locks := (congrArg M.locks he).symm
  have c0 : W.cell? ⟨w.heap.size, 0, none⟩ = some (.int .i64 x.kind) := (h2.bx.cell 0).trans (rfl)
  have d0 : W.cell? ⟨w.heap.size + 1, 0, none⟩ = some (.int .i64 x.kind) := (h2.by_.cell 0).trans (by rw [← q0]; rfl)
  have c1 : W.cell? ⟨w.heap.size, 1, none⟩ = some (.int .i64 x.tx) := (h2.bx.cell 1).trans (rfl)
  have d1 : W.cell? ⟨w.heap.size + 1, 1, none⟩ = some (.int .i64 x.tx) := (h2.by_.cell 1).trans (by rw [← q1]; rfl)
  have c2 : W.cell? ⟨w.heap.size, 2, none⟩ = some (.int .i64 x.prev) := (h2.bx.cell 2).trans (rfl)
  have d2 : W.cell? ⟨w.heap.size + 1, 2, none⟩ = some (.int .i64 x.prev) := (h2.by_.cell 2).trans (by rw [← q2]; rfl)
  have c3 : W.cell? ⟨w.heap.size, 3, none⟩ = some (.int .i64 x.nxt) := (h2.bx.cell 3).trans (rfl)
  have d3 : W.cell? ⟨w.heap.size + 1, 3, none⟩ = some (.int .i64 x.nxt) := (h2.by_.cell 3).trans (by rw [← q3]; rfl)
  have c4 : W.cell? ⟨w.heap.size, 4, none⟩ = some (.string x.key) := (h2.bx.cell 4).trans (rfl)
  have d4 : W.cell? ⟨w.heap.size + 1, 4, none⟩ = some (.string x.key) := (h2.by_.cell 4).trans (by rw [← q4]; rfl)
  have c5 : W.cell? ⟨w.heap.size, 5, none⟩ = some (.bool x.old.has) := (h2.bx.cell 5).trans (rfl)
  have d5 : W.cell? ⟨w.heap.size + 1, 5, none⟩ = some (.bool x.old.has) := (h2.by_.cell 5).trans (by rw [← q5]; rfl)
  have c6 : W.cell? ⟨w.heap.size, 6, none⟩ = some (.string x.old.data) := (h2.bx.cell 6).trans (rfl)
  have d6 : W.cell? ⟨w.heap.size + 1, 6, none⟩ = some (.string x.old.data) := (h2.by_.cell 6).trans (by rw [← q5]; rfl)
  have c7 : W.cell? ⟨w.heap.size, 7, none⟩ = some (.bool x.new.has) := (h2.bx.cell 7).trans (rfl)
  have d7 : W.cell? ⟨w.heap.size + 1, 7, none⟩ = some (.bool x.new.has) := (h2.by_.cell 7).trans (by rw [← q6]; rfl)
  have c8 : W.cell? ⟨w.heap.size, 8, none⟩ = some (.string x.new.data) := (h2.bx.cell 8).trans (rfl)
  have d8 : W.cell? ⟨w.heap.size + 1, 8, none⟩ = some (.string x.new.data) := (h2.by_.cell 8).trans (by rw [← q6]; rfl)
  have c9 : W.cell? ⟨w.heap.size, 9, none⟩ = some (.int .i64 x.coord) := (h2.bx.cell 9).trans (rfl)
  have d9 : W.cell? ⟨w.heap.size + 1, 9, none⟩ = some (.int .i64 x.coord) := (h2.by_.cell 9).trans (by rw [← q7]; rfl)
  have c10 : W.cell? ⟨w.heap.size, 10, none⟩ = some (.slice x.mA nm x.mc) := (h2.bx.cell 10).trans (by rw [← hnm]; rfl)
  have d10 : W.cell? ⟨w.heap.size + 1, 10, none⟩ = some (.slice y.mA nm y.mc) := (h2.by_.cell 10).trans (by rw [← hnm, ← q8]; rfl)
  have c11 : W.cell? ⟨w.heap.size, 11, none⟩ = some (.slice x.lA nl x.lc) := (h2.bx.cell 11).trans (by rw [← hnl]; rfl)
  have d11 : W.cell? ⟨w.heap.size + 1, 11, none⟩ = some (.slice y.lA nl y.lc) := (h2.by_.cell 11).trans (by rw [← hnl, ← q9]; rfl)
  have hm2 : IS W y.mA nm x.mem := by have g := h2.oky.mem; rw [q8, hnm] at g; exact g
  have hl2 : ST lockK W y.lA nl x.locks := by have g := h2.oky.locks; rw [q9, hnl] at g; exact g
  have H := Lib.hid (And.intro h2 (And.intro (by rw [← hnm]; exact h2.okx.mem : IS W x.mA nm x.mem) (And.intro hm2 (And.intro (by rw [← hnl]; exact h2.okx.locks : ST lockK W x.lA nl x.locks) (And.intro hl2 (And.intro (by rw [← hnm]; exact hs.mem : nm ≤ 1000000) (by rw [← hnl]; exact hs.locks : nl ≤ 1000000)))))))
  have HE := Lib.hid he
  clear h2 hx hy hs he hnm hnl hm2 hl2 q0 q1 q2 q3 q4 q5 q6 q7 q8 q9
  go_enter Try.func19, Try.ntmps19
  dsimp only [List.append]
  go_wp2_with fail
  refine (sameInts_eq x.mA y.mA nm x.mc y.mc x.mem _ H.out.2.1 H.out.2.2.1 H.out.2.2.2.2.2.1).mono ?_
  rintro e w1 ⟨rfl, hb1⟩
  have e0 := cell_below hb1 c11
  have e1 := cell_below hb1 d11
  have H1 := Lib.hid hb1
  clear hb1 c0 c1 c2 c3 c4 c5 c6 c7 c8 c9 c10 c11 d0 d1 d2 d3 d4 d5 d6 d7 d8 d9 d10 d11
  go_wp2_with fail
  refine (sameLocks_eq x.lA y.lA nl x.lc y.lc x.locks _ (H.out.2.2.2.1.below H1.out) (H.out.2.2.2.2.1.below H1.out) H.out.2.2.2.2.2.2).mono ?_
  rintro e w2 ⟨rfl, hb2⟩
  have H2 := Lib.hid (H1.out.trans (hb2.mono H1.out.size))
  clear hb2 e0 e1
  have hbx := H.out.1.bx.below H2.out H.out.1.bx.lt
  have hby := H.out.1.by_.below H2.out H.out.1.by_.lt
  go_wp2_with (first | (refine wpList_load_rec' _ (by rfl) (by rfl) (by rfl) hbx ?_) | (refine wpList_load_rec' _ (by rfl) (by rfl) (by rfl) hby ?_))
  refine (sameLists_eq x y _ (H.out.1.okx.below H2.out) (H.out.1.oky.below H2.out) H.out.1.sm HE.out).mono ?_
  rintro e w3 ⟨rfl, hb3⟩
  have H3 := Lib.hid (H2.out.trans (hb3.mono H2.out.size))
  clear hb3 hbx hby
  go_wp2_with fail
  go_ret
  exact ⟨rfl, H.out.1.hb.trans (H3.out.mono H.out.1.hb.size)⟩
end Go.Proofs.Ytlijfnekopjogaa
