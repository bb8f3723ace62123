/- The coder reads: the fields of each kind (printed by gen_rf.py). -/
import Derived.Test.YtlijfnekopjogaaRecMems
import Derived.Test.YtlijfnekopjogaaRecRs
namespace Go.Proofs.Ytlijfnekopjogaa
open Go Go.RowKit Mem Rc
set_option maxRecDepth 100000
set_option linter.unusedVariables false
set_option linter.unusedSimpArgs false

set_option maxHeartbeats 8000000 in
theorem cr_fields1 (q : Nat) (r : Sl.R) (F : Nat → Prop) (rb : Nat) (w : World) (hr : RdAt w q r F) (hbl : Blk w rb 30 (mCells (MD.k0 1))) (hn : ¬ F rb) (hl : r.b.length ≤ 140737488351232) :
    Calls Try.prog 46 #[cr q, .pointer (some ⟨rb, 0, none⟩)] w (FdTo w F q rb ((fC 1).dec r).1 ((fC 1).dec r).2) := by
  obtain ⟨W, hW⟩ := crW w q
  have e := hW.eq
  have z0 := hW.c0
  have z1 := hW.c1
  have hFw : ¬ (w.heap.size = q ∨ w.heap.size = rb) := fun h => by
    rcases h with h | h
    · have := hr.bound q hr.self; omega
    · have := hbl.lt; omega
  obtain ⟨x0, hx0⟩ : ∃ x0, MD.k0 1 = x0 := ⟨_, rfl⟩
  have HS0 := Lib.hid (RSt.mk hW (hr.bound q hr.self) hbl.lt hn hr.bound hFw (hr.below hW.below) (hbl.below hW.below hbl.lt) (Fr.refl _ _) (MOk.k0 W 1) (MAp.k0 _ 1) hl)
  rw [hx0] at HS0
  have ck : W.cell? ⟨rb, 0, none⟩ = some (.int .i64 1) := (HS0.out.bl.cell 0).trans (by rw [← hx0]; rfl)
  have HX0 := Lib.hid hx0
  clear hr hbl hn hl hFw hW hx0
  go_enter Try.func46, Try.ntmps46
  have hbW : Below W.heap.size W (W.alloc (.cells #[.pointer (some ⟨rb, 1, none⟩), .pointer (some ⟨rb, 2, none⟩)] 117)).drew := ((Below.refl _ _).alloc (Nat.le_refl _) _).drew
  have hp : ∀ k, k < 2 → (W.alloc (.cells #[.pointer (some ⟨rb, 1, none⟩), .pointer (some ⟨rb, 2, none⟩)] 117)).drew.cell? ⟨W.heap.size, k, none⟩ = some (.pointer (some ⟨rb, [1, 2].getD k 0, none⟩)) := fun k hk => match k, hk with
    | 0, _ => (Blk.new W 117 #[.pointer (some ⟨rb, 1, none⟩), .pointer (some ⟨rb, 2, none⟩)]).cell 0
    | 1, _ => (Blk.new W 117 #[.pointer (some ⟨rb, 1, none⟩), .pointer (some ⟨rb, 2, none⟩)]).cell 1
  have hlt : ∀ k, k < 2 → [1, 2].getD k 0 < (mCells x0).size := fun k hk => match k, hk with
    | 0, _ => by show 1 < 16; decide
    | 1, _ => by show 2 < 16; decide
  have hg : ¬ (W.heap.size = q ∨ W.heap.size = rb) := fun h => by have := HS0.out.lt _ h; have := HS0.out.size; omega
  have HK0 := Lib.hid (cr_nums q (r) F W.heap.size rb 2 [1, 2] 2 30 (mCells x0) (W.alloc (.cells #[.pointer (some ⟨rb, 1, none⟩), .pointer (some ⟨rb, 2, none⟩)] 117)).drew (HS0.out.rd.below hbW) (HS0.out.bl.below hbW HS0.out.bl.lt) HS0.out.hn hg hp hlt HS0.out.hl (by decide))
  have HB0 := Lib.hid hbW
  clear hp hlt hg hbW
  go_wp2_with fail
  refine wp_region_held_drew (S := (fun w' => w'.cell? ⟨w.heap.size, 0, none⟩ = some (.pointer none) ∧ w'.cell? ⟨w.heap.size, 1, none⟩ = some (.pointer (some ⟨q, 0, none⟩)))) (by kernel_rfl) ⟨z0, z1⟩ (fun hHeld => ?_)
  refine tk 0 25 (v := cr q) (h := ?_)
  refine tk 1 26 (v := .pointer (some ⟨rb, 0, none⟩)) (h := ?_)
  refine tk 2 27 (v := .pointer (some ⟨rb, 0, none⟩)) (h := ?_)
  refine tk 3 28 (v := .pointer (some ⟨rb, 1, none⟩)) (h := ?_)
  refine tk 4 29 (v := .pointer (some ⟨rb, 0, none⟩)) (h := ?_)
  refine tk 5 30 (v := .pointer (some ⟨rb, 0, none⟩)) (h := ?_)
  refine tk 6 31 (v := .pointer (some ⟨rb, 2, none⟩)) (h := ?_)
  refine wpAnyH_ready (rs := [7]) (by kernel_rfl) (by simp) ?_
  refine AllReadyH.cons rfl (fun K hK => ?_) AllReadyH.nil
  go_simp
  refine hK.out _ _ ⟨cell_alloc_some' _ z0, cell_alloc_some' _ z1⟩ (fun hHeld => ?_)
  clear hK K
  try simp only [Act.put, List.setIfInBounds_toArray, List.set_cons_zero, List.set_cons_succ]
  refine wpAnyH_ready (rs := [8]) (by kernel_rfl) (by simp) ?_
  refine AllReadyH.cons rfl (fun K hK => ?_) AllReadyH.nil
  go_simp
  refine HK0.out.mono ?_
  intro e w1 h4
  have h5 := h4.1
  obtain ⟨x1, hx1⟩ : ∃ x1, ({ x0 with tx := (nC.dec (Cd.many nC (r) 0).2).1, prev := (nC.dec (Cd.many nC (r) 1).2).1 } : MD) = x1 := ⟨_, rfl⟩
  have h6 : RSt w W q rb F x1 ((Cd.many nC (r) 2).2) w1 := by
    rw [show numsTo (mCells x0) [1, 2] (r) 2 = mCells x1 by rw [← hx1]; rfl] at h4
    exact HS0.out.next HB0.out h4 (Cd.many_le nC _ 2) (fun h => by rw [← hx1]; exact ⟨h.mem, h.mc, h.locks, h.lc, h.rows, h.rc, h.dirty, h.dc, h.deeds, h.ec, h.past, h.pc⟩) (fun h => by rw [← hx1]; exact ⟨h.mem, h.locks, h.rows, h.dirty, h.deeds, h.past, h.row, h.deed⟩)
  have HS1 := Lib.hid h6
  have HX1 := Lib.hid hx1
  clear h4 h6 hx1
  subst h5
  refine hK.out _ _ ⟨HS1.out.co.c0, HS1.out.co.c1⟩ (fun hHeld => ?_)
  clear hK K
  try simp only [Act.put, List.setIfInBounds_toArray, List.set_cons_zero, List.set_cons_succ]
  refine wpAnyH_done (by kernel_rfl) ?_ _
  try clear hHeld
  have a1 : w1.drew.cell? ⟨w.heap.size, 0, none⟩ = some (.pointer none) := HS1.out.co.c0
  have b1 : w1.drew.cell? ⟨w.heap.size, 1, none⟩ = some (.pointer (some ⟨q, 0, none⟩)) := HS1.out.co.c1
  have HK1 := Lib.hid (cr_text q ((Cd.many nC (r) 2).2) F rb 4 30 (mCells x1) w1.drew (HS1.out.rd.below (Below.refl _ _).drew) HS1.out.bl HS1.out.hn (by show 4 < 16; decide) HS1.out.hl)
  go_wp2_with fail
  go_still_tail 4, (by kernel_rfl)
  go_wp2_with fail
  refine HK1.out.mono ?_
  intro e w2 h4
  have h5 := h4.1
  obtain ⟨x2, hx2⟩ : ∃ x2, ({ x1 with key := (tC.dec ((Cd.many nC (r) 2).2)).1 } : MD) = x2 := ⟨_, rfl⟩
  have h6 : RSt w W q rb F x2 ((tC.dec ((Cd.many nC (r) 2).2)).2) w2 := by
    refine HS1.out.next (wk := w1.drew) (x' := x2) (r' := (tC.dec ((Cd.many nC (r) 2).2)).2) (e := e) (Below.refl _ _).drew ?_ (tC.le _) (fun h => by rw [← hx2]; exact ⟨h.mem, h.mc, h.locks, h.lc, h.rows, h.rc, h.dirty, h.dc, h.deeds, h.ec, h.past, h.pc⟩) (fun h => by rw [← hx2]; exact ⟨h.mem, h.locks, h.rows, h.dirty, h.deeds, h.past, h.row, h.deed⟩)
    rw [← hx2]
    exact h4
  have HS2 := Lib.hid h6
  have HX2 := Lib.hid hx2
  clear h4 h6 hx2
  subst h5
  have a2 : w2.drew.cell? ⟨w.heap.size, 0, none⟩ = some (.pointer none) := HS2.out.co.c0
  have b2 : w2.drew.cell? ⟨w.heap.size, 1, none⟩ = some (.pointer (some ⟨q, 0, none⟩)) := HS2.out.co.c1
  have HK2 := Lib.hid (cr_value q ((tC.dec ((Cd.many nC (r) 2).2)).2) F rb 5 30 (mCells x2) w2.drew (HS2.out.rd.below (Below.refl _ _).drew) HS2.out.bl HS2.out.hn (by show 5 < 16; decide) (by rw [← HX2.out]; rw [← HX1.out]; rw [← HX0.out]; rfl) HS2.out.hl)
  go_wp2_with fail
  go_still_tail 4, (by kernel_rfl)
  go_wp2_with fail
  refine HK2.out.mono ?_
  intro e w3 h4
  have h5 := h4.1
  obtain ⟨x3, hx3⟩ : ∃ x3, ({ x2 with old := (vC.dec ((tC.dec ((Cd.many nC (r) 2).2)).2)).1 } : MD) = x3 := ⟨_, rfl⟩
  have h6 : RSt w W q rb F x3 ((vC.dec ((tC.dec ((Cd.many nC (r) 2).2)).2)).2) w3 := by
    refine HS2.out.next (wk := w2.drew) (x' := x3) (r' := (vC.dec ((tC.dec ((Cd.many nC (r) 2).2)).2)).2) (e := e) (Below.refl _ _).drew ?_ (vC.le _) (fun h => by rw [← hx3]; exact ⟨h.mem, h.mc, h.locks, h.lc, h.rows, h.rc, h.dirty, h.dc, h.deeds, h.ec, h.past, h.pc⟩) (fun h => by rw [← hx3]; exact ⟨h.mem, h.locks, h.rows, h.dirty, h.deeds, h.past, h.row, h.deed⟩)
    rw [← hx3]
    exact h4
  have HS3 := Lib.hid h6
  have HX3 := Lib.hid hx3
  clear h4 h6 hx3
  subst h5
  have a3 : w3.drew.cell? ⟨w.heap.size, 0, none⟩ = some (.pointer none) := HS3.out.co.c0
  have b3 : w3.drew.cell? ⟨w.heap.size, 1, none⟩ = some (.pointer (some ⟨q, 0, none⟩)) := HS3.out.co.c1
  have HK3 := Lib.hid (cr_value q ((vC.dec ((tC.dec ((Cd.many nC (r) 2).2)).2)).2) F rb 7 30 (mCells x3) w3.drew (HS3.out.rd.below (Below.refl _ _).drew) HS3.out.bl HS3.out.hn (by show 7 < 16; decide) (by rw [← HX3.out]; rw [← HX2.out]; rw [← HX1.out]; rw [← HX0.out]; rfl) HS3.out.hl)
  go_wp2_with fail
  go_still_tail 4, (by kernel_rfl)
  go_wp2_with fail
  refine HK3.out.mono ?_
  intro e w4 h4
  have h5 := h4.1
  obtain ⟨x4, hx4⟩ : ∃ x4, ({ x3 with new := (vC.dec ((vC.dec ((tC.dec ((Cd.many nC (r) 2).2)).2)).2)).1 } : MD) = x4 := ⟨_, rfl⟩
  have h6 : RSt w W q rb F x4 ((vC.dec ((vC.dec ((tC.dec ((Cd.many nC (r) 2).2)).2)).2)).2) w4 := by
    refine HS3.out.next (wk := w3.drew) (x' := x4) (r' := (vC.dec ((vC.dec ((tC.dec ((Cd.many nC (r) 2).2)).2)).2)).2) (e := e) (Below.refl _ _).drew ?_ (vC.le _) (fun h => by rw [← hx4]; exact ⟨h.mem, h.mc, h.locks, h.lc, h.rows, h.rc, h.dirty, h.dc, h.deeds, h.ec, h.past, h.pc⟩) (fun h => by rw [← hx4]; exact ⟨h.mem, h.locks, h.rows, h.dirty, h.deeds, h.past, h.row, h.deed⟩)
    rw [← hx4]
    exact h4
  have HS4 := Lib.hid h6
  have HX4 := Lib.hid hx4
  clear h4 h6 hx4
  subst h5
  go_wp2
  go_end0
  rw [show fC 1 = updC from rfl]
  unfold updC
  rw [as_dec]
  simp only [pair_dec]
  refine HS4.out.done ?_ ?_
  · rw [← HX4.out]; rw [← HX3.out]; rw [← HX2.out]; rw [← HX1.out]; rw [← HX0.out]
    rfl
  · rfl
set_option maxHeartbeats 8000000 in
theorem cr_fields2 (q : Nat) (r : Sl.R) (F : Nat → Prop) (rb : Nat) (w : World) (hr : RdAt w q r F) (hbl : Blk w rb 30 (mCells (MD.k0 2))) (hn : ¬ F rb) (hl : r.b.length ≤ 140737488351232) :
    Calls Try.prog 46 #[cr q, .pointer (some ⟨rb, 0, none⟩)] w (FdTo w F q rb ((fC 2).dec r).1 ((fC 2).dec r).2) := by
  obtain ⟨W, hW⟩ := crW w q
  have e := hW.eq
  have z0 := hW.c0
  have z1 := hW.c1
  have hFw : ¬ (w.heap.size = q ∨ w.heap.size = rb) := fun h => by
    rcases h with h | h
    · have := hr.bound q hr.self; omega
    · have := hbl.lt; omega
  obtain ⟨x0, hx0⟩ : ∃ x0, MD.k0 2 = x0 := ⟨_, rfl⟩
  have HS0 := Lib.hid (RSt.mk hW (hr.bound q hr.self) hbl.lt hn hr.bound hFw (hr.below hW.below) (hbl.below hW.below hbl.lt) (Fr.refl _ _) (MOk.k0 W 2) (MAp.k0 _ 2) hl)
  rw [hx0] at HS0
  have ck : W.cell? ⟨rb, 0, none⟩ = some (.int .i64 2) := (HS0.out.bl.cell 0).trans (by rw [← hx0]; rfl)
  have HX0 := Lib.hid hx0
  clear hr hbl hn hl hFw hW hx0
  go_enter Try.func46, Try.ntmps46
  have hbW : Below W.heap.size W (W.alloc (.cells #[.pointer (some ⟨rb, 1, none⟩), .pointer (some ⟨rb, 2, none⟩), .pointer (some ⟨rb, 3, none⟩)] 117)).drew := ((Below.refl _ _).alloc (Nat.le_refl _) _).drew
  have hp : ∀ k, k < 3 → (W.alloc (.cells #[.pointer (some ⟨rb, 1, none⟩), .pointer (some ⟨rb, 2, none⟩), .pointer (some ⟨rb, 3, none⟩)] 117)).drew.cell? ⟨W.heap.size, k, none⟩ = some (.pointer (some ⟨rb, [1, 2, 3].getD k 0, none⟩)) := fun k hk => match k, hk with
    | 0, _ => (Blk.new W 117 #[.pointer (some ⟨rb, 1, none⟩), .pointer (some ⟨rb, 2, none⟩), .pointer (some ⟨rb, 3, none⟩)]).cell 0
    | 1, _ => (Blk.new W 117 #[.pointer (some ⟨rb, 1, none⟩), .pointer (some ⟨rb, 2, none⟩), .pointer (some ⟨rb, 3, none⟩)]).cell 1
    | 2, _ => (Blk.new W 117 #[.pointer (some ⟨rb, 1, none⟩), .pointer (some ⟨rb, 2, none⟩), .pointer (some ⟨rb, 3, none⟩)]).cell 2
  have hlt : ∀ k, k < 3 → [1, 2, 3].getD k 0 < (mCells x0).size := fun k hk => match k, hk with
    | 0, _ => by show 1 < 16; decide
    | 1, _ => by show 2 < 16; decide
    | 2, _ => by show 3 < 16; decide
  have hg : ¬ (W.heap.size = q ∨ W.heap.size = rb) := fun h => by have := HS0.out.lt _ h; have := HS0.out.size; omega
  have HK0 := Lib.hid (cr_nums q (r) F W.heap.size rb 3 [1, 2, 3] 3 30 (mCells x0) (W.alloc (.cells #[.pointer (some ⟨rb, 1, none⟩), .pointer (some ⟨rb, 2, none⟩), .pointer (some ⟨rb, 3, none⟩)] 117)).drew (HS0.out.rd.below hbW) (HS0.out.bl.below hbW HS0.out.bl.lt) HS0.out.hn hg hp hlt HS0.out.hl (by decide))
  have HB0 := Lib.hid hbW
  clear hp hlt hg hbW
  go_wp2_with fail
  refine wp_region_held_drew (S := (fun w' => w'.cell? ⟨w.heap.size, 0, none⟩ = some (.pointer none) ∧ w'.cell? ⟨w.heap.size, 1, none⟩ = some (.pointer (some ⟨q, 0, none⟩)))) (by kernel_rfl) ⟨z0, z1⟩ (fun hHeld => ?_)
  refine tk 0 49 (v := cr q) (h := ?_)
  refine tk 1 50 (v := .pointer (some ⟨rb, 0, none⟩)) (h := ?_)
  refine tk 2 51 (v := .pointer (some ⟨rb, 0, none⟩)) (h := ?_)
  refine tk 3 52 (v := .pointer (some ⟨rb, 1, none⟩)) (h := ?_)
  refine tk 4 53 (v := .pointer (some ⟨rb, 0, none⟩)) (h := ?_)
  refine tk 5 54 (v := .pointer (some ⟨rb, 0, none⟩)) (h := ?_)
  refine tk 6 55 (v := .pointer (some ⟨rb, 2, none⟩)) (h := ?_)
  refine tk 7 56 (v := .pointer (some ⟨rb, 0, none⟩)) (h := ?_)
  refine tk 8 57 (v := .pointer (some ⟨rb, 0, none⟩)) (h := ?_)
  refine tk 9 58 (v := .pointer (some ⟨rb, 3, none⟩)) (h := ?_)
  refine wpAnyH_ready (rs := [10]) (by kernel_rfl) (by simp) ?_
  refine AllReadyH.cons rfl (fun K hK => ?_) AllReadyH.nil
  go_simp
  refine hK.out _ _ ⟨cell_alloc_some' _ z0, cell_alloc_some' _ z1⟩ (fun hHeld => ?_)
  clear hK K
  try simp only [Act.put, List.setIfInBounds_toArray, List.set_cons_zero, List.set_cons_succ]
  refine wpAnyH_ready (rs := [11]) (by kernel_rfl) (by simp) ?_
  refine AllReadyH.cons rfl (fun K hK => ?_) AllReadyH.nil
  go_simp
  refine HK0.out.mono ?_
  intro e w1 h4
  have h5 := h4.1
  obtain ⟨x1, hx1⟩ : ∃ x1, ({ x0 with tx := (nC.dec (Cd.many nC (r) 0).2).1, prev := (nC.dec (Cd.many nC (r) 1).2).1, nxt := (nC.dec (Cd.many nC (r) 2).2).1 } : MD) = x1 := ⟨_, rfl⟩
  have h6 : RSt w W q rb F x1 ((Cd.many nC (r) 3).2) w1 := by
    rw [show numsTo (mCells x0) [1, 2, 3] (r) 3 = mCells x1 by rw [← hx1]; rfl] at h4
    exact HS0.out.next HB0.out h4 (Cd.many_le nC _ 3) (fun h => by rw [← hx1]; exact ⟨h.mem, h.mc, h.locks, h.lc, h.rows, h.rc, h.dirty, h.dc, h.deeds, h.ec, h.past, h.pc⟩) (fun h => by rw [← hx1]; exact ⟨h.mem, h.locks, h.rows, h.dirty, h.deeds, h.past, h.row, h.deed⟩)
  have HS1 := Lib.hid h6
  have HX1 := Lib.hid hx1
  clear h4 h6 hx1
  subst h5
  refine hK.out _ _ ⟨HS1.out.co.c0, HS1.out.co.c1⟩ (fun hHeld => ?_)
  clear hK K
  try simp only [Act.put, List.setIfInBounds_toArray, List.set_cons_zero, List.set_cons_succ]
  refine wpAnyH_done (by kernel_rfl) ?_ _
  try clear hHeld
  have a1 : w1.drew.cell? ⟨w.heap.size, 0, none⟩ = some (.pointer none) := HS1.out.co.c0
  have b1 : w1.drew.cell? ⟨w.heap.size, 1, none⟩ = some (.pointer (some ⟨q, 0, none⟩)) := HS1.out.co.c1
  have HK1 := Lib.hid (cr_text q ((Cd.many nC (r) 3).2) F rb 4 30 (mCells x1) w1.drew (HS1.out.rd.below (Below.refl _ _).drew) HS1.out.bl HS1.out.hn (by show 4 < 16; decide) HS1.out.hl)
  go_wp2_with fail
  go_still_tail 4, (by kernel_rfl)
  go_wp2_with fail
  refine HK1.out.mono ?_
  intro e w2 h4
  have h5 := h4.1
  obtain ⟨x2, hx2⟩ : ∃ x2, ({ x1 with key := (tC.dec ((Cd.many nC (r) 3).2)).1 } : MD) = x2 := ⟨_, rfl⟩
  have h6 : RSt w W q rb F x2 ((tC.dec ((Cd.many nC (r) 3).2)).2) w2 := by
    refine HS1.out.next (wk := w1.drew) (x' := x2) (r' := (tC.dec ((Cd.many nC (r) 3).2)).2) (e := e) (Below.refl _ _).drew ?_ (tC.le _) (fun h => by rw [← hx2]; exact ⟨h.mem, h.mc, h.locks, h.lc, h.rows, h.rc, h.dirty, h.dc, h.deeds, h.ec, h.past, h.pc⟩) (fun h => by rw [← hx2]; exact ⟨h.mem, h.locks, h.rows, h.dirty, h.deeds, h.past, h.row, h.deed⟩)
    rw [← hx2]
    exact h4
  have HS2 := Lib.hid h6
  have HX2 := Lib.hid hx2
  clear h4 h6 hx2
  subst h5
  have a2 : w2.drew.cell? ⟨w.heap.size, 0, none⟩ = some (.pointer none) := HS2.out.co.c0
  have b2 : w2.drew.cell? ⟨w.heap.size, 1, none⟩ = some (.pointer (some ⟨q, 0, none⟩)) := HS2.out.co.c1
  have HK2 := Lib.hid (cr_value q ((tC.dec ((Cd.many nC (r) 3).2)).2) F rb 7 30 (mCells x2) w2.drew (HS2.out.rd.below (Below.refl _ _).drew) HS2.out.bl HS2.out.hn (by show 7 < 16; decide) (by rw [← HX2.out]; rw [← HX1.out]; rw [← HX0.out]; rfl) HS2.out.hl)
  go_wp2_with fail
  go_still_tail 4, (by kernel_rfl)
  go_wp2_with fail
  refine HK2.out.mono ?_
  intro e w3 h4
  have h5 := h4.1
  obtain ⟨x3, hx3⟩ : ∃ x3, ({ x2 with new := (vC.dec ((tC.dec ((Cd.many nC (r) 3).2)).2)).1 } : MD) = x3 := ⟨_, rfl⟩
  have h6 : RSt w W q rb F x3 ((vC.dec ((tC.dec ((Cd.many nC (r) 3).2)).2)).2) w3 := by
    refine HS2.out.next (wk := w2.drew) (x' := x3) (r' := (vC.dec ((tC.dec ((Cd.many nC (r) 3).2)).2)).2) (e := e) (Below.refl _ _).drew ?_ (vC.le _) (fun h => by rw [← hx3]; exact ⟨h.mem, h.mc, h.locks, h.lc, h.rows, h.rc, h.dirty, h.dc, h.deeds, h.ec, h.past, h.pc⟩) (fun h => by rw [← hx3]; exact ⟨h.mem, h.locks, h.rows, h.dirty, h.deeds, h.past, h.row, h.deed⟩)
    rw [← hx3]
    exact h4
  have HS3 := Lib.hid h6
  have HX3 := Lib.hid hx3
  clear h4 h6 hx3
  subst h5
  go_wp2
  go_end0
  rw [show fC 2 = clrC from rfl]
  unfold clrC
  rw [as_dec]
  simp only [pair_dec]
  refine HS3.out.done ?_ ?_
  · rw [← HX3.out]; rw [← HX2.out]; rw [← HX1.out]; rw [← HX0.out]
    rfl
  · rfl
set_option maxHeartbeats 8000000 in
theorem cr_fields3 (q : Nat) (r : Sl.R) (F : Nat → Prop) (rb : Nat) (w : World) (hr : RdAt w q r F) (hbl : Blk w rb 30 (mCells (MD.k0 3))) (hn : ¬ F rb) (hl : r.b.length ≤ 140737488351232) :
    Calls Try.prog 46 #[cr q, .pointer (some ⟨rb, 0, none⟩)] w (FdTo w F q rb ((fC 3).dec r).1 ((fC 3).dec r).2) := by
  obtain ⟨W, hW⟩ := crW w q
  have e := hW.eq
  have z0 := hW.c0
  have z1 := hW.c1
  have hFw : ¬ (w.heap.size = q ∨ w.heap.size = rb) := fun h => by
    rcases h with h | h
    · have := hr.bound q hr.self; omega
    · have := hbl.lt; omega
  obtain ⟨x0, hx0⟩ : ∃ x0, MD.k0 3 = x0 := ⟨_, rfl⟩
  have HS0 := Lib.hid (RSt.mk hW (hr.bound q hr.self) hbl.lt hn hr.bound hFw (hr.below hW.below) (hbl.below hW.below hbl.lt) (Fr.refl _ _) (MOk.k0 W 3) (MAp.k0 _ 3) hl)
  rw [hx0] at HS0
  have ck : W.cell? ⟨rb, 0, none⟩ = some (.int .i64 3) := (HS0.out.bl.cell 0).trans (by rw [← hx0]; rfl)
  have HX0 := Lib.hid hx0
  clear hr hbl hn hl hFw hW hx0
  go_enter Try.func46, Try.ntmps46
  have hbW : Below W.heap.size W (W.alloc (.cells #[.pointer (some ⟨rb, 1, none⟩), .pointer (some ⟨rb, 2, none⟩), .pointer (some ⟨rb, 9, none⟩)] 117)).drew := ((Below.refl _ _).alloc (Nat.le_refl _) _).drew
  have hp : ∀ k, k < 3 → (W.alloc (.cells #[.pointer (some ⟨rb, 1, none⟩), .pointer (some ⟨rb, 2, none⟩), .pointer (some ⟨rb, 9, none⟩)] 117)).drew.cell? ⟨W.heap.size, k, none⟩ = some (.pointer (some ⟨rb, [1, 2, 9].getD k 0, none⟩)) := fun k hk => match k, hk with
    | 0, _ => (Blk.new W 117 #[.pointer (some ⟨rb, 1, none⟩), .pointer (some ⟨rb, 2, none⟩), .pointer (some ⟨rb, 9, none⟩)]).cell 0
    | 1, _ => (Blk.new W 117 #[.pointer (some ⟨rb, 1, none⟩), .pointer (some ⟨rb, 2, none⟩), .pointer (some ⟨rb, 9, none⟩)]).cell 1
    | 2, _ => (Blk.new W 117 #[.pointer (some ⟨rb, 1, none⟩), .pointer (some ⟨rb, 2, none⟩), .pointer (some ⟨rb, 9, none⟩)]).cell 2
  have hlt : ∀ k, k < 3 → [1, 2, 9].getD k 0 < (mCells x0).size := fun k hk => match k, hk with
    | 0, _ => by show 1 < 16; decide
    | 1, _ => by show 2 < 16; decide
    | 2, _ => by show 9 < 16; decide
  have hg : ¬ (W.heap.size = q ∨ W.heap.size = rb) := fun h => by have := HS0.out.lt _ h; have := HS0.out.size; omega
  have HK0 := Lib.hid (cr_nums q (r) F W.heap.size rb 3 [1, 2, 9] 3 30 (mCells x0) (W.alloc (.cells #[.pointer (some ⟨rb, 1, none⟩), .pointer (some ⟨rb, 2, none⟩), .pointer (some ⟨rb, 9, none⟩)] 117)).drew (HS0.out.rd.below hbW) (HS0.out.bl.below hbW HS0.out.bl.lt) HS0.out.hn hg hp hlt HS0.out.hl (by decide))
  have HB0 := Lib.hid hbW
  clear hp hlt hg hbW
  go_wp2_with fail
  refine wp_region_held_drew (S := (fun w' => w'.cell? ⟨w.heap.size, 0, none⟩ = some (.pointer none) ∧ w'.cell? ⟨w.heap.size, 1, none⟩ = some (.pointer (some ⟨q, 0, none⟩)))) (by kernel_rfl) ⟨z0, z1⟩ (fun hHeld => ?_)
  refine tk 0 71 (v := cr q) (h := ?_)
  refine tk 1 72 (v := .pointer (some ⟨rb, 0, none⟩)) (h := ?_)
  refine tk 2 73 (v := .pointer (some ⟨rb, 0, none⟩)) (h := ?_)
  refine tk 3 74 (v := .pointer (some ⟨rb, 1, none⟩)) (h := ?_)
  refine tk 4 75 (v := .pointer (some ⟨rb, 0, none⟩)) (h := ?_)
  refine tk 5 76 (v := .pointer (some ⟨rb, 0, none⟩)) (h := ?_)
  refine tk 6 77 (v := .pointer (some ⟨rb, 2, none⟩)) (h := ?_)
  refine tk 7 78 (v := .pointer (some ⟨rb, 0, none⟩)) (h := ?_)
  refine tk 8 79 (v := .pointer (some ⟨rb, 0, none⟩)) (h := ?_)
  refine tk 9 80 (v := .pointer (some ⟨rb, 9, none⟩)) (h := ?_)
  refine wpAnyH_ready (rs := [10]) (by kernel_rfl) (by simp) ?_
  refine AllReadyH.cons rfl (fun K hK => ?_) AllReadyH.nil
  go_simp
  refine hK.out _ _ ⟨cell_alloc_some' _ z0, cell_alloc_some' _ z1⟩ (fun hHeld => ?_)
  clear hK K
  try simp only [Act.put, List.setIfInBounds_toArray, List.set_cons_zero, List.set_cons_succ]
  refine wpAnyH_ready (rs := [11]) (by kernel_rfl) (by simp) ?_
  refine AllReadyH.cons rfl (fun K hK => ?_) AllReadyH.nil
  go_simp
  refine HK0.out.mono ?_
  intro e w1 h4
  have h5 := h4.1
  obtain ⟨x1, hx1⟩ : ∃ x1, ({ x0 with tx := (nC.dec (Cd.many nC (r) 0).2).1, prev := (nC.dec (Cd.many nC (r) 1).2).1, coord := (nC.dec (Cd.many nC (r) 2).2).1 } : MD) = x1 := ⟨_, rfl⟩
  have h6 : RSt w W q rb F x1 ((Cd.many nC (r) 3).2) w1 := by
    rw [show numsTo (mCells x0) [1, 2, 9] (r) 3 = mCells x1 by rw [← hx1]; rfl] at h4
    exact HS0.out.next HB0.out h4 (Cd.many_le nC _ 3) (fun h => by rw [← hx1]; exact ⟨h.mem, h.mc, h.locks, h.lc, h.rows, h.rc, h.dirty, h.dc, h.deeds, h.ec, h.past, h.pc⟩) (fun h => by rw [← hx1]; exact ⟨h.mem, h.locks, h.rows, h.dirty, h.deeds, h.past, h.row, h.deed⟩)
  have HS1 := Lib.hid h6
  have HX1 := Lib.hid hx1
  clear h4 h6 hx1
  subst h5
  refine hK.out _ _ ⟨HS1.out.co.c0, HS1.out.co.c1⟩ (fun hHeld => ?_)
  clear hK K
  try simp only [Act.put, List.setIfInBounds_toArray, List.set_cons_zero, List.set_cons_succ]
  refine wpAnyH_done (by kernel_rfl) ?_ _
  try clear hHeld
  have a1 : w1.drew.cell? ⟨w.heap.size, 0, none⟩ = some (.pointer none) := HS1.out.co.c0
  have b1 : w1.drew.cell? ⟨w.heap.size, 1, none⟩ = some (.pointer (some ⟨q, 0, none⟩)) := HS1.out.co.c1
  have HK1 := Lib.hid (cr_ints q ((Cd.many nC (r) 3).2) F rb 10 30 (mCells x1) none 0 0 w1.drew (HS1.out.rd.below (Below.refl _ _).drew) HS1.out.bl HS1.out.hn (by rw [← HX1.out]; rw [← HX0.out]; rfl) HS1.out.hl)
  go_wp2_with fail
  go_still_tail 4, (by kernel_rfl)
  go_wp2_with fail
  refine HK1.out.mono ?_
  rintro e w2 ⟨A1, c1, l1, rfl, g1, g2, g3, g4, g5, g6⟩
  obtain ⟨x2, hx2⟩ : ∃ x2, ({ x1 with mem := l1, mA := A1, mc := c1 } : MD) = x2 := ⟨_, rfl⟩
  have h6 : RSt w W q rb F x2 ((iC.dec ((Cd.many nC (r) 3).2)).2) w2 := by
    refine HS1.out.next (wk := w1.drew) (x' := x2) (r' := (iC.dec ((Cd.many nC (r) 3).2)).2) (e := .returned (.tuple #[])) (Below.refl _ _).drew ?_ (iC.le _) (fun h => by rw [← hx2]; exact ⟨is_of_st g2, g4, h.locks, h.lc, h.rows, h.rc, h.dirty, h.dc, h.deeds, h.ec, h.past, h.pc⟩) (fun h => by rw [← hx2]; exact ⟨(fun a ha => Nat.le_trans HS1.out.size (g5 a ha)), h.locks, h.rows, h.dirty, h.deeds, h.past, h.row, h.deed⟩)
    rw [← hx2]
    exact g1
  have HS2 := Lib.hid h6
  have HX2 := Lib.hid hx2
  have HL2 := Lib.hid g3
  clear g1 g2 g3 g4 g5 g6 h6 hx2
  have a2 : w2.drew.cell? ⟨w.heap.size, 0, none⟩ = some (.pointer none) := HS2.out.co.c0
  have b2 : w2.drew.cell? ⟨w.heap.size, 1, none⟩ = some (.pointer (some ⟨q, 0, none⟩)) := HS2.out.co.c1
  have HK2 := Lib.hid (cr_locks q ((iC.dec ((Cd.many nC (r) 3).2)).2) F rb 11 30 (mCells x2) none 0 0 w2.drew (HS2.out.rd.below (Below.refl _ _).drew) HS2.out.bl HS2.out.hn (by rw [← HX2.out]; rw [← HX1.out]; rw [← HX0.out]; rfl) HS2.out.hl)
  go_wp2_with fail
  go_still_tail 4, (by kernel_rfl)
  go_wp2_with fail
  refine HK2.out.mono ?_
  rintro e w3 ⟨A2, c2, l2, rfl, g1, g2, g3, g4, g5, g6⟩
  obtain ⟨x3, hx3⟩ : ∃ x3, ({ x2 with locks := l2, lA := A2, lc := c2 } : MD) = x3 := ⟨_, rfl⟩
  have h6 : RSt w W q rb F x3 ((lsC.dec ((iC.dec ((Cd.many nC (r) 3).2)).2)).2) w3 := by
    refine HS2.out.next (wk := w2.drew) (x' := x3) (r' := (lsC.dec ((iC.dec ((Cd.many nC (r) 3).2)).2)).2) (e := .returned (.tuple #[])) (Below.refl _ _).drew ?_ (lsC.le _) (fun h => by rw [← hx3]; exact ⟨h.mem, h.mc, g2, g4, h.rows, h.rc, h.dirty, h.dc, h.deeds, h.ec, h.past, h.pc⟩) (fun h => by rw [← hx3]; exact ⟨h.mem, (fun a ha => Nat.le_trans HS2.out.size (g5 a ha)), h.rows, h.dirty, h.deeds, h.past, h.row, h.deed⟩)
    rw [← hx3]
    exact g1
  have HS3 := Lib.hid h6
  have HX3 := Lib.hid hx3
  have HL3 := Lib.hid g3
  clear g1 g2 g3 g4 g5 g6 h6 hx3
  go_wp2
  go_end0
  rw [show fC 3 = prepC from rfl]
  unfold prepC
  rw [as_dec]
  simp only [pair_dec]
  refine HS3.out.done ?_ ?_
  · rw [← HX3.out]; rw [← HX2.out]; rw [← HX1.out]; rw [← HX0.out]
    have yHL2 := HL2.out
    have yHL3 := HL3.out
    rw [List.map_id] at yHL2
    rw [List.map_id] at yHL3
    show M.mk _ _ _ _ _ _ _ _ _ _ _ _ _ _ = _
    simp only [MD.m, MD.k0, M.zero, Cd.many, yHL2, yHL3]
    try rfl
  · rfl
set_option maxHeartbeats 8000000 in
theorem cr_fields4 (q : Nat) (r : Sl.R) (F : Nat → Prop) (rb : Nat) (w : World) (hr : RdAt w q r F) (hbl : Blk w rb 30 (mCells (MD.k0 4))) (hn : ¬ F rb) (hl : r.b.length ≤ 140737488351232) :
    Calls Try.prog 46 #[cr q, .pointer (some ⟨rb, 0, none⟩)] w (FdTo w F q rb ((fC 4).dec r).1 ((fC 4).dec r).2) := by
  obtain ⟨W, hW⟩ := crW w q
  have e := hW.eq
  have z0 := hW.c0
  have z1 := hW.c1
  have hFw : ¬ (w.heap.size = q ∨ w.heap.size = rb) := fun h => by
    rcases h with h | h
    · have := hr.bound q hr.self; omega
    · have := hbl.lt; omega
  obtain ⟨x0, hx0⟩ : ∃ x0, MD.k0 4 = x0 := ⟨_, rfl⟩
  have HS0 := Lib.hid (RSt.mk hW (hr.bound q hr.self) hbl.lt hn hr.bound hFw (hr.below hW.below) (hbl.below hW.below hbl.lt) (Fr.refl _ _) (MOk.k0 W 4) (MAp.k0 _ 4) hl)
  rw [hx0] at HS0
  have ck : W.cell? ⟨rb, 0, none⟩ = some (.int .i64 4) := (HS0.out.bl.cell 0).trans (by rw [← hx0]; rfl)
  have HX0 := Lib.hid hx0
  clear hr hbl hn hl hFw hW hx0
  go_enter Try.func46, Try.ntmps46
  have hbW : Below W.heap.size W (W.alloc (.cells #[.pointer (some ⟨rb, 1, none⟩), .pointer (some ⟨rb, 2, none⟩)] 117)).drew := ((Below.refl _ _).alloc (Nat.le_refl _) _).drew
  have hp : ∀ k, k < 2 → (W.alloc (.cells #[.pointer (some ⟨rb, 1, none⟩), .pointer (some ⟨rb, 2, none⟩)] 117)).drew.cell? ⟨W.heap.size, k, none⟩ = some (.pointer (some ⟨rb, [1, 2].getD k 0, none⟩)) := fun k hk => match k, hk with
    | 0, _ => (Blk.new W 117 #[.pointer (some ⟨rb, 1, none⟩), .pointer (some ⟨rb, 2, none⟩)]).cell 0
    | 1, _ => (Blk.new W 117 #[.pointer (some ⟨rb, 1, none⟩), .pointer (some ⟨rb, 2, none⟩)]).cell 1
  have hlt : ∀ k, k < 2 → [1, 2].getD k 0 < (mCells x0).size := fun k hk => match k, hk with
    | 0, _ => by show 1 < 16; decide
    | 1, _ => by show 2 < 16; decide
  have hg : ¬ (W.heap.size = q ∨ W.heap.size = rb) := fun h => by have := HS0.out.lt _ h; have := HS0.out.size; omega
  have HK0 := Lib.hid (cr_nums q (r) F W.heap.size rb 2 [1, 2] 2 30 (mCells x0) (W.alloc (.cells #[.pointer (some ⟨rb, 1, none⟩), .pointer (some ⟨rb, 2, none⟩)] 117)).drew (HS0.out.rd.below hbW) (HS0.out.bl.below hbW HS0.out.bl.lt) HS0.out.hn hg hp hlt HS0.out.hl (by decide))
  have HB0 := Lib.hid hbW
  clear hp hlt hg hbW
  go_wp2_with fail
  refine wp_region_held_drew (S := (fun w' => w'.cell? ⟨w.heap.size, 0, none⟩ = some (.pointer none) ∧ w'.cell? ⟨w.heap.size, 1, none⟩ = some (.pointer (some ⟨q, 0, none⟩)))) (by kernel_rfl) ⟨z0, z1⟩ (fun hHeld => ?_)
  refine tk 0 93 (v := cr q) (h := ?_)
  refine tk 1 94 (v := .pointer (some ⟨rb, 0, none⟩)) (h := ?_)
  refine tk 2 95 (v := .pointer (some ⟨rb, 0, none⟩)) (h := ?_)
  refine tk 3 96 (v := .pointer (some ⟨rb, 1, none⟩)) (h := ?_)
  refine tk 4 97 (v := .pointer (some ⟨rb, 0, none⟩)) (h := ?_)
  refine tk 5 98 (v := .pointer (some ⟨rb, 0, none⟩)) (h := ?_)
  refine tk 6 99 (v := .pointer (some ⟨rb, 2, none⟩)) (h := ?_)
  refine wpAnyH_ready (rs := [7]) (by kernel_rfl) (by simp) ?_
  refine AllReadyH.cons rfl (fun K hK => ?_) AllReadyH.nil
  go_simp
  refine hK.out _ _ ⟨cell_alloc_some' _ z0, cell_alloc_some' _ z1⟩ (fun hHeld => ?_)
  clear hK K
  try simp only [Act.put, List.setIfInBounds_toArray, List.set_cons_zero, List.set_cons_succ]
  refine wpAnyH_ready (rs := [8]) (by kernel_rfl) (by simp) ?_
  refine AllReadyH.cons rfl (fun K hK => ?_) AllReadyH.nil
  go_simp
  refine HK0.out.mono ?_
  intro e w1 h4
  have h5 := h4.1
  obtain ⟨x1, hx1⟩ : ∃ x1, ({ x0 with tx := (nC.dec (Cd.many nC (r) 0).2).1, prev := (nC.dec (Cd.many nC (r) 1).2).1 } : MD) = x1 := ⟨_, rfl⟩
  have h6 : RSt w W q rb F x1 ((Cd.many nC (r) 2).2) w1 := by
    rw [show numsTo (mCells x0) [1, 2] (r) 2 = mCells x1 by rw [← hx1]; rfl] at h4
    exact HS0.out.next HB0.out h4 (Cd.many_le nC _ 2) (fun h => by rw [← hx1]; exact ⟨h.mem, h.mc, h.locks, h.lc, h.rows, h.rc, h.dirty, h.dc, h.deeds, h.ec, h.past, h.pc⟩) (fun h => by rw [← hx1]; exact ⟨h.mem, h.locks, h.rows, h.dirty, h.deeds, h.past, h.row, h.deed⟩)
  have HS1 := Lib.hid h6
  have HX1 := Lib.hid hx1
  clear h4 h6 hx1
  subst h5
  refine hK.out _ _ ⟨HS1.out.co.c0, HS1.out.co.c1⟩ (fun hHeld => ?_)
  clear hK K
  try simp only [Act.put, List.setIfInBounds_toArray, List.set_cons_zero, List.set_cons_succ]
  refine wpAnyH_done (by kernel_rfl) ?_ _
  try clear hHeld
  go_wp2
  go_end0
  rw [show fC 4 = (endC 4) from rfl]
  unfold endC
  rw [as_dec]
  simp only [pair_dec]
  refine HS1.out.done ?_ ?_
  · rw [← HX1.out]; rw [← HX0.out]
    rfl
  · rfl
set_option maxHeartbeats 8000000 in
theorem cr_fields5 (q : Nat) (r : Sl.R) (F : Nat → Prop) (rb : Nat) (w : World) (hr : RdAt w q r F) (hbl : Blk w rb 30 (mCells (MD.k0 5))) (hn : ¬ F rb) (hl : r.b.length ≤ 140737488351232) :
    Calls Try.prog 46 #[cr q, .pointer (some ⟨rb, 0, none⟩)] w (FdTo w F q rb ((fC 5).dec r).1 ((fC 5).dec r).2) := by
  obtain ⟨W, hW⟩ := crW w q
  have e := hW.eq
  have z0 := hW.c0
  have z1 := hW.c1
  have hFw : ¬ (w.heap.size = q ∨ w.heap.size = rb) := fun h => by
    rcases h with h | h
    · have := hr.bound q hr.self; omega
    · have := hbl.lt; omega
  obtain ⟨x0, hx0⟩ : ∃ x0, MD.k0 5 = x0 := ⟨_, rfl⟩
  have HS0 := Lib.hid (RSt.mk hW (hr.bound q hr.self) hbl.lt hn hr.bound hFw (hr.below hW.below) (hbl.below hW.below hbl.lt) (Fr.refl _ _) (MOk.k0 W 5) (MAp.k0 _ 5) hl)
  rw [hx0] at HS0
  have ck : W.cell? ⟨rb, 0, none⟩ = some (.int .i64 5) := (HS0.out.bl.cell 0).trans (by rw [← hx0]; rfl)
  have HX0 := Lib.hid hx0
  clear hr hbl hn hl hFw hW hx0
  go_enter Try.func46, Try.ntmps46
  have hbW : Below W.heap.size W (W.alloc (.cells #[.pointer (some ⟨rb, 1, none⟩), .pointer (some ⟨rb, 2, none⟩)] 117)).drew := ((Below.refl _ _).alloc (Nat.le_refl _) _).drew
  have hp : ∀ k, k < 2 → (W.alloc (.cells #[.pointer (some ⟨rb, 1, none⟩), .pointer (some ⟨rb, 2, none⟩)] 117)).drew.cell? ⟨W.heap.size, k, none⟩ = some (.pointer (some ⟨rb, [1, 2].getD k 0, none⟩)) := fun k hk => match k, hk with
    | 0, _ => (Blk.new W 117 #[.pointer (some ⟨rb, 1, none⟩), .pointer (some ⟨rb, 2, none⟩)]).cell 0
    | 1, _ => (Blk.new W 117 #[.pointer (some ⟨rb, 1, none⟩), .pointer (some ⟨rb, 2, none⟩)]).cell 1
  have hlt : ∀ k, k < 2 → [1, 2].getD k 0 < (mCells x0).size := fun k hk => match k, hk with
    | 0, _ => by show 1 < 16; decide
    | 1, _ => by show 2 < 16; decide
  have hg : ¬ (W.heap.size = q ∨ W.heap.size = rb) := fun h => by have := HS0.out.lt _ h; have := HS0.out.size; omega
  have HK0 := Lib.hid (cr_nums q (r) F W.heap.size rb 2 [1, 2] 2 30 (mCells x0) (W.alloc (.cells #[.pointer (some ⟨rb, 1, none⟩), .pointer (some ⟨rb, 2, none⟩)] 117)).drew (HS0.out.rd.below hbW) (HS0.out.bl.below hbW HS0.out.bl.lt) HS0.out.hn hg hp hlt HS0.out.hl (by decide))
  have HB0 := Lib.hid hbW
  clear hp hlt hg hbW
  go_wp2_with fail
  refine wp_region_held_drew (S := (fun w' => w'.cell? ⟨w.heap.size, 0, none⟩ = some (.pointer none) ∧ w'.cell? ⟨w.heap.size, 1, none⟩ = some (.pointer (some ⟨q, 0, none⟩)))) (by kernel_rfl) ⟨z0, z1⟩ (fun hHeld => ?_)
  refine tk 0 93 (v := cr q) (h := ?_)
  refine tk 1 94 (v := .pointer (some ⟨rb, 0, none⟩)) (h := ?_)
  refine tk 2 95 (v := .pointer (some ⟨rb, 0, none⟩)) (h := ?_)
  refine tk 3 96 (v := .pointer (some ⟨rb, 1, none⟩)) (h := ?_)
  refine tk 4 97 (v := .pointer (some ⟨rb, 0, none⟩)) (h := ?_)
  refine tk 5 98 (v := .pointer (some ⟨rb, 0, none⟩)) (h := ?_)
  refine tk 6 99 (v := .pointer (some ⟨rb, 2, none⟩)) (h := ?_)
  refine wpAnyH_ready (rs := [7]) (by kernel_rfl) (by simp) ?_
  refine AllReadyH.cons rfl (fun K hK => ?_) AllReadyH.nil
  go_simp
  refine hK.out _ _ ⟨cell_alloc_some' _ z0, cell_alloc_some' _ z1⟩ (fun hHeld => ?_)
  clear hK K
  try simp only [Act.put, List.setIfInBounds_toArray, List.set_cons_zero, List.set_cons_succ]
  refine wpAnyH_ready (rs := [8]) (by kernel_rfl) (by simp) ?_
  refine AllReadyH.cons rfl (fun K hK => ?_) AllReadyH.nil
  go_simp
  refine HK0.out.mono ?_
  intro e w1 h4
  have h5 := h4.1
  obtain ⟨x1, hx1⟩ : ∃ x1, ({ x0 with tx := (nC.dec (Cd.many nC (r) 0).2).1, prev := (nC.dec (Cd.many nC (r) 1).2).1 } : MD) = x1 := ⟨_, rfl⟩
  have h6 : RSt w W q rb F x1 ((Cd.many nC (r) 2).2) w1 := by
    rw [show numsTo (mCells x0) [1, 2] (r) 2 = mCells x1 by rw [← hx1]; rfl] at h4
    exact HS0.out.next HB0.out h4 (Cd.many_le nC _ 2) (fun h => by rw [← hx1]; exact ⟨h.mem, h.mc, h.locks, h.lc, h.rows, h.rc, h.dirty, h.dc, h.deeds, h.ec, h.past, h.pc⟩) (fun h => by rw [← hx1]; exact ⟨h.mem, h.locks, h.rows, h.dirty, h.deeds, h.past, h.row, h.deed⟩)
  have HS1 := Lib.hid h6
  have HX1 := Lib.hid hx1
  clear h4 h6 hx1
  subst h5
  refine hK.out _ _ ⟨HS1.out.co.c0, HS1.out.co.c1⟩ (fun hHeld => ?_)
  clear hK K
  try simp only [Act.put, List.setIfInBounds_toArray, List.set_cons_zero, List.set_cons_succ]
  refine wpAnyH_done (by kernel_rfl) ?_ _
  try clear hHeld
  go_wp2
  go_end0
  rw [show fC 5 = (endC 5) from rfl]
  unfold endC
  rw [as_dec]
  simp only [pair_dec]
  refine HS1.out.done ?_ ?_
  · rw [← HX1.out]; rw [← HX0.out]
    rfl
  · rfl
set_option maxHeartbeats 8000000 in
theorem cr_fields6 (q : Nat) (r : Sl.R) (F : Nat → Prop) (rb : Nat) (w : World) (hr : RdAt w q r F) (hbl : Blk w rb 30 (mCells (MD.k0 6))) (hn : ¬ F rb) (hl : r.b.length ≤ 140737488351232) :
    Calls Try.prog 46 #[cr q, .pointer (some ⟨rb, 0, none⟩)] w (FdTo w F q rb ((fC 6).dec r).1 ((fC 6).dec r).2) := by
  obtain ⟨W, hW⟩ := crW w q
  have e := hW.eq
  have z0 := hW.c0
  have z1 := hW.c1
  have hFw : ¬ (w.heap.size = q ∨ w.heap.size = rb) := fun h => by
    rcases h with h | h
    · have := hr.bound q hr.self; omega
    · have := hbl.lt; omega
  obtain ⟨x0, hx0⟩ : ∃ x0, MD.k0 6 = x0 := ⟨_, rfl⟩
  have HS0 := Lib.hid (RSt.mk hW (hr.bound q hr.self) hbl.lt hn hr.bound hFw (hr.below hW.below) (hbl.below hW.below hbl.lt) (Fr.refl _ _) (MOk.k0 W 6) (MAp.k0 _ 6) hl)
  rw [hx0] at HS0
  have ck : W.cell? ⟨rb, 0, none⟩ = some (.int .i64 6) := (HS0.out.bl.cell 0).trans (by rw [← hx0]; rfl)
  have HX0 := Lib.hid hx0
  clear hr hbl hn hl hFw hW hx0
  go_enter Try.func46, Try.ntmps46
  have hbW : Below W.heap.size W (W.alloc (.cells #[.pointer (some ⟨rb, 1, none⟩), .pointer (some ⟨rb, 2, none⟩)] 117)).drew := ((Below.refl _ _).alloc (Nat.le_refl _) _).drew
  have hp : ∀ k, k < 2 → (W.alloc (.cells #[.pointer (some ⟨rb, 1, none⟩), .pointer (some ⟨rb, 2, none⟩)] 117)).drew.cell? ⟨W.heap.size, k, none⟩ = some (.pointer (some ⟨rb, [1, 2].getD k 0, none⟩)) := fun k hk => match k, hk with
    | 0, _ => (Blk.new W 117 #[.pointer (some ⟨rb, 1, none⟩), .pointer (some ⟨rb, 2, none⟩)]).cell 0
    | 1, _ => (Blk.new W 117 #[.pointer (some ⟨rb, 1, none⟩), .pointer (some ⟨rb, 2, none⟩)]).cell 1
  have hlt : ∀ k, k < 2 → [1, 2].getD k 0 < (mCells x0).size := fun k hk => match k, hk with
    | 0, _ => by show 1 < 16; decide
    | 1, _ => by show 2 < 16; decide
  have hg : ¬ (W.heap.size = q ∨ W.heap.size = rb) := fun h => by have := HS0.out.lt _ h; have := HS0.out.size; omega
  have HK0 := Lib.hid (cr_nums q (r) F W.heap.size rb 2 [1, 2] 2 30 (mCells x0) (W.alloc (.cells #[.pointer (some ⟨rb, 1, none⟩), .pointer (some ⟨rb, 2, none⟩)] 117)).drew (HS0.out.rd.below hbW) (HS0.out.bl.below hbW HS0.out.bl.lt) HS0.out.hn hg hp hlt HS0.out.hl (by decide))
  have HB0 := Lib.hid hbW
  clear hp hlt hg hbW
  go_wp2_with fail
  refine wp_region_held_drew (S := (fun w' => w'.cell? ⟨w.heap.size, 0, none⟩ = some (.pointer none) ∧ w'.cell? ⟨w.heap.size, 1, none⟩ = some (.pointer (some ⟨q, 0, none⟩)))) (by kernel_rfl) ⟨z0, z1⟩ (fun hHeld => ?_)
  refine tk 0 93 (v := cr q) (h := ?_)
  refine tk 1 94 (v := .pointer (some ⟨rb, 0, none⟩)) (h := ?_)
  refine tk 2 95 (v := .pointer (some ⟨rb, 0, none⟩)) (h := ?_)
  refine tk 3 96 (v := .pointer (some ⟨rb, 1, none⟩)) (h := ?_)
  refine tk 4 97 (v := .pointer (some ⟨rb, 0, none⟩)) (h := ?_)
  refine tk 5 98 (v := .pointer (some ⟨rb, 0, none⟩)) (h := ?_)
  refine tk 6 99 (v := .pointer (some ⟨rb, 2, none⟩)) (h := ?_)
  refine wpAnyH_ready (rs := [7]) (by kernel_rfl) (by simp) ?_
  refine AllReadyH.cons rfl (fun K hK => ?_) AllReadyH.nil
  go_simp
  refine hK.out _ _ ⟨cell_alloc_some' _ z0, cell_alloc_some' _ z1⟩ (fun hHeld => ?_)
  clear hK K
  try simp only [Act.put, List.setIfInBounds_toArray, List.set_cons_zero, List.set_cons_succ]
  refine wpAnyH_ready (rs := [8]) (by kernel_rfl) (by simp) ?_
  refine AllReadyH.cons rfl (fun K hK => ?_) AllReadyH.nil
  go_simp
  refine HK0.out.mono ?_
  intro e w1 h4
  have h5 := h4.1
  obtain ⟨x1, hx1⟩ : ∃ x1, ({ x0 with tx := (nC.dec (Cd.many nC (r) 0).2).1, prev := (nC.dec (Cd.many nC (r) 1).2).1 } : MD) = x1 := ⟨_, rfl⟩
  have h6 : RSt w W q rb F x1 ((Cd.many nC (r) 2).2) w1 := by
    rw [show numsTo (mCells x0) [1, 2] (r) 2 = mCells x1 by rw [← hx1]; rfl] at h4
    exact HS0.out.next HB0.out h4 (Cd.many_le nC _ 2) (fun h => by rw [← hx1]; exact ⟨h.mem, h.mc, h.locks, h.lc, h.rows, h.rc, h.dirty, h.dc, h.deeds, h.ec, h.past, h.pc⟩) (fun h => by rw [← hx1]; exact ⟨h.mem, h.locks, h.rows, h.dirty, h.deeds, h.past, h.row, h.deed⟩)
  have HS1 := Lib.hid h6
  have HX1 := Lib.hid hx1
  clear h4 h6 hx1
  subst h5
  refine hK.out _ _ ⟨HS1.out.co.c0, HS1.out.co.c1⟩ (fun hHeld => ?_)
  clear hK K
  try simp only [Act.put, List.setIfInBounds_toArray, List.set_cons_zero, List.set_cons_succ]
  refine wpAnyH_done (by kernel_rfl) ?_ _
  try clear hHeld
  go_wp2
  go_end0
  rw [show fC 6 = (endC 6) from rfl]
  unfold endC
  rw [as_dec]
  simp only [pair_dec]
  refine HS1.out.done ?_ ?_
  · rw [← HX1.out]; rw [← HX0.out]
    rfl
  · rfl
set_option maxHeartbeats 8000000 in
theorem cr_fields7 (q : Nat) (r : Sl.R) (F : Nat → Prop) (rb : Nat) (w : World) (hr : RdAt w q r F) (hbl : Blk w rb 30 (mCells (MD.k0 7))) (hn : ¬ F rb) (hl : r.b.length ≤ 140737488351232) :
    Calls Try.prog 46 #[cr q, .pointer (some ⟨rb, 0, none⟩)] w (FdTo w F q rb ((fC 7).dec r).1 ((fC 7).dec r).2) := by
  obtain ⟨W, hW⟩ := crW w q
  have e := hW.eq
  have z0 := hW.c0
  have z1 := hW.c1
  have hFw : ¬ (w.heap.size = q ∨ w.heap.size = rb) := fun h => by
    rcases h with h | h
    · have := hr.bound q hr.self; omega
    · have := hbl.lt; omega
  obtain ⟨x0, hx0⟩ : ∃ x0, MD.k0 7 = x0 := ⟨_, rfl⟩
  have HS0 := Lib.hid (RSt.mk hW (hr.bound q hr.self) hbl.lt hn hr.bound hFw (hr.below hW.below) (hbl.below hW.below hbl.lt) (Fr.refl _ _) (MOk.k0 W 7) (MAp.k0 _ 7) hl)
  rw [hx0] at HS0
  have ck : W.cell? ⟨rb, 0, none⟩ = some (.int .i64 7) := (HS0.out.bl.cell 0).trans (by rw [← hx0]; rfl)
  have HX0 := Lib.hid hx0
  clear hr hbl hn hl hFw hW hx0
  go_enter Try.func46, Try.ntmps46
  go_wp2
  go_end0
  rw [show fC 7 = (noC 7) from rfl]
  unfold noC
  rw [as_dec]
  simp only [pair_dec]
  refine HS0.out.done ?_ ?_
  · rw [← HX0.out]
    rfl
  · rfl
set_option maxHeartbeats 8000000 in
theorem cr_fields8 (q : Nat) (r : Sl.R) (F : Nat → Prop) (rb : Nat) (w : World) (hr : RdAt w q r F) (hbl : Blk w rb 30 (mCells (MD.k0 8))) (hn : ¬ F rb) (hl : r.b.length ≤ 140737488351232) :
    Calls Try.prog 46 #[cr q, .pointer (some ⟨rb, 0, none⟩)] w (FdTo w F q rb ((fC 8).dec r).1 ((fC 8).dec r).2) := by
  obtain ⟨W, hW⟩ := crW w q
  have e := hW.eq
  have z0 := hW.c0
  have z1 := hW.c1
  have hFw : ¬ (w.heap.size = q ∨ w.heap.size = rb) := fun h => by
    rcases h with h | h
    · have := hr.bound q hr.self; omega
    · have := hbl.lt; omega
  obtain ⟨x0, hx0⟩ : ∃ x0, MD.k0 8 = x0 := ⟨_, rfl⟩
  have HS0 := Lib.hid (RSt.mk hW (hr.bound q hr.self) hbl.lt hn hr.bound hFw (hr.below hW.below) (hbl.below hW.below hbl.lt) (Fr.refl _ _) (MOk.k0 W 8) (MAp.k0 _ 8) hl)
  rw [hx0] at HS0
  have ck : W.cell? ⟨rb, 0, none⟩ = some (.int .i64 8) := (HS0.out.bl.cell 0).trans (by rw [← hx0]; rfl)
  have HX0 := Lib.hid hx0
  clear hr hbl hn hl hFw hW hx0
  go_enter Try.func46, Try.ntmps46
  have HK0 := Lib.hid (er_row q (r) F rb 12 30 (mCells x0) none 0 0 W.drew (HS0.out.rd.below (Below.refl _ _).drew) HS0.out.bl HS0.out.hn (by rw [← HX0.out]; rfl) HS0.out.hl)
  go_wp2_with fail
  go_still_tail 6, (by kernel_rfl)
  go_wp2_with fail
  refine HK0.out.mono ?_
  rintro e w1 ⟨A0, c0, l0, rfl, g1, g2, g3, g4, g5, g6⟩
  obtain ⟨x1, hx1⟩ : ∃ x1, ({ x0 with rows := l0, rA := A0, rc := c0 } : MD) = x1 := ⟨_, rfl⟩
  have h6 : RSt w W q rb F x1 ((rwsC.dec (r)).2) w1 := by
    refine HS0.out.next (wk := W.drew) (x' := x1) (r' := (rwsC.dec (r)).2) (e := .returned (.tuple #[])) (Below.refl _ _).drew ?_ (rwsC.le _) (fun h => by rw [← hx1]; exact ⟨h.mem, h.mc, h.locks, h.lc, g2, g4, h.dirty, h.dc, h.deeds, h.ec, h.past, h.pc⟩) (fun h => by rw [← hx1]; exact ⟨h.mem, h.locks, (fun a ha => Nat.le_trans HS0.out.size (g5 a ha)), h.dirty, h.deeds, h.past, (fun y hy => apmono_row (g6 y hy) HS0.out.size), h.deed⟩)
    rw [← hx1]
    exact g1
  have HS1 := Lib.hid h6
  have HX1 := Lib.hid hx1
  have HL1 := Lib.hid g3
  clear g1 g2 g3 g4 g5 g6 h6 hx1
  have a1 : w1.drew.cell? ⟨w.heap.size, 0, none⟩ = some (.pointer none) := HS1.out.co.c0
  have b1 : w1.drew.cell? ⟨w.heap.size, 1, none⟩ = some (.pointer (some ⟨q, 0, none⟩)) := HS1.out.co.c1
  have HK1 := Lib.hid (er_dirty q ((rwsC.dec (r)).2) F rb 13 w.heap.size 30 (mCells x1) none 0 0 w1.drew (HS1.out.rd.below (Below.refl _ _).drew) HS1.out.bl HS1.out.hn (by rw [← HX1.out]; rw [← HX0.out]; rfl) (HS1.out.co.below (Below.refl _ _).drew) HS1.out.hFw HS1.out.hl)
  go_wp2_with fail
  go_still_tail 5, (by kernel_rfl)
  go_wp2_with fail
  refine HK1.out.mono ?_
  rintro e w2 ⟨A1, c1, l1, rfl, g1, g2, g3, g4, g5, g6⟩
  obtain ⟨x2, hx2⟩ : ∃ x2, ({ x1 with dirty := l1, dA := A1, dc := c1 } : MD) = x2 := ⟨_, rfl⟩
  have h6 : RSt w W q rb F x2 ((dsC.dec ((rwsC.dec (r)).2)).2) w2 := by
    refine HS1.out.next (wk := w1.drew) (x' := x2) (r' := (dsC.dec ((rwsC.dec (r)).2)).2) (e := .returned (.tuple #[])) (Below.refl _ _).drew ?_ (dsC.le _) (fun h => by rw [← hx2]; exact ⟨h.mem, h.mc, h.locks, h.lc, h.rows, h.rc, g2, g4, h.deeds, h.ec, h.past, h.pc⟩) (fun h => by rw [← hx2]; exact ⟨h.mem, h.locks, h.rows, (fun a ha => Nat.le_trans HS1.out.size (g5 a ha)), h.deeds, h.past, h.row, h.deed⟩)
    rw [← hx2]
    exact g1
  have HS2 := Lib.hid h6
  have HX2 := Lib.hid hx2
  have HL2 := Lib.hid g3
  clear g1 g2 g3 g4 g5 g6 h6 hx2
  have a2 : w2.drew.cell? ⟨w.heap.size, 0, none⟩ = some (.pointer none) := HS2.out.co.c0
  have b2 : w2.drew.cell? ⟨w.heap.size, 1, none⟩ = some (.pointer (some ⟨q, 0, none⟩)) := HS2.out.co.c1
  have HK2 := Lib.hid (er_deed q ((dsC.dec ((rwsC.dec (r)).2)).2) F rb 14 w.heap.size 30 (mCells x2) none 0 0 w2.drew (HS2.out.rd.below (Below.refl _ _).drew) HS2.out.bl HS2.out.hn (by rw [← HX2.out]; rw [← HX1.out]; rw [← HX0.out]; rfl) (HS2.out.co.below (Below.refl _ _).drew) HS2.out.hFw HS2.out.hl)
  go_wp2_with fail
  go_still_tail 5, (by kernel_rfl)
  go_wp2_with fail
  refine HK2.out.mono ?_
  rintro e w3 ⟨A2, c2, l2, rfl, g1, g2, g3, g4, g5, g6⟩
  obtain ⟨x3, hx3⟩ : ∃ x3, ({ x2 with deeds := l2, eA := A2, ec := c2 } : MD) = x3 := ⟨_, rfl⟩
  have h6 : RSt w W q rb F x3 ((desC.dec ((dsC.dec ((rwsC.dec (r)).2)).2)).2) w3 := by
    refine HS2.out.next (wk := w2.drew) (x' := x3) (r' := (desC.dec ((dsC.dec ((rwsC.dec (r)).2)).2)).2) (e := .returned (.tuple #[])) (Below.refl _ _).drew ?_ (desC.le _) (fun h => by rw [← hx3]; exact ⟨h.mem, h.mc, h.locks, h.lc, h.rows, h.rc, h.dirty, h.dc, g2, g4, h.past, h.pc⟩) (fun h => by rw [← hx3]; exact ⟨h.mem, h.locks, h.rows, h.dirty, (fun a ha => Nat.le_trans HS2.out.size (g5 a ha)), h.past, h.row, (fun y hy => apmono_deed (g6 y hy) HS2.out.size)⟩)
    rw [← hx3]
    exact g1
  have HS3 := Lib.hid h6
  have HX3 := Lib.hid hx3
  have HL3 := Lib.hid g3
  clear g1 g2 g3 g4 g5 g6 h6 hx3
  have a3 : w3.drew.cell? ⟨w.heap.size, 0, none⟩ = some (.pointer none) := HS3.out.co.c0
  have b3 : w3.drew.cell? ⟨w.heap.size, 1, none⟩ = some (.pointer (some ⟨q, 0, none⟩)) := HS3.out.co.c1
  have HK3 := Lib.hid (cr_ints q ((desC.dec ((dsC.dec ((rwsC.dec (r)).2)).2)).2) F rb 15 30 (mCells x3) none 0 0 w3.drew (HS3.out.rd.below (Below.refl _ _).drew) HS3.out.bl HS3.out.hn (by rw [← HX3.out]; rw [← HX2.out]; rw [← HX1.out]; rw [← HX0.out]; rfl) HS3.out.hl)
  go_wp2_with fail
  go_still_tail 4, (by kernel_rfl)
  go_wp2_with fail
  refine HK3.out.mono ?_
  rintro e w4 ⟨A3, c3, l3, rfl, g1, g2, g3, g4, g5, g6⟩
  obtain ⟨x4, hx4⟩ : ∃ x4, ({ x3 with past := l3, pA := A3, pc := c3 } : MD) = x4 := ⟨_, rfl⟩
  have h6 : RSt w W q rb F x4 ((iC.dec ((desC.dec ((dsC.dec ((rwsC.dec (r)).2)).2)).2)).2) w4 := by
    refine HS3.out.next (wk := w3.drew) (x' := x4) (r' := (iC.dec ((desC.dec ((dsC.dec ((rwsC.dec (r)).2)).2)).2)).2) (e := .returned (.tuple #[])) (Below.refl _ _).drew ?_ (iC.le _) (fun h => by rw [← hx4]; exact ⟨h.mem, h.mc, h.locks, h.lc, h.rows, h.rc, h.dirty, h.dc, h.deeds, h.ec, is_of_st g2, g4⟩) (fun h => by rw [← hx4]; exact ⟨h.mem, h.locks, h.rows, h.dirty, h.deeds, (fun a ha => Nat.le_trans HS3.out.size (g5 a ha)), h.row, h.deed⟩)
    rw [← hx4]
    exact g1
  have HS4 := Lib.hid h6
  have HX4 := Lib.hid hx4
  have HL4 := Lib.hid g3
  clear g1 g2 g3 g4 g5 g6 h6 hx4
  go_wp2
  go_end0
  rw [show fC 8 = chkC from rfl]
  unfold chkC
  rw [as_dec]
  simp only [pair_dec]
  refine HS4.out.done ?_ ?_
  · rw [← HX4.out]; rw [← HX3.out]; rw [← HX2.out]; rw [← HX1.out]; rw [← HX0.out]
    have yHL1 := HL1.out
    have yHL2 := HL2.out
    have yHL3 := HL3.out
    have yHL4 := HL4.out
    rw [List.map_id] at yHL2
    rw [List.map_id] at yHL4
    show M.mk _ _ _ _ _ _ _ _ _ _ _ _ _ _ = _
    simp only [MD.m, MD.k0, M.zero, Cd.many, yHL1, yHL2, yHL3, yHL4]
    try rfl
  · rfl
set_option maxHeartbeats 8000000 in
theorem cr_fields9 (q : Nat) (r : Sl.R) (F : Nat → Prop) (rb : Nat) (w : World) (hr : RdAt w q r F) (hbl : Blk w rb 30 (mCells (MD.k0 9))) (hn : ¬ F rb) (hl : r.b.length ≤ 140737488351232) :
    Calls Try.prog 46 #[cr q, .pointer (some ⟨rb, 0, none⟩)] w (FdTo w F q rb ((fC 9).dec r).1 ((fC 9).dec r).2) := by
  obtain ⟨W, hW⟩ := crW w q
  have e := hW.eq
  have z0 := hW.c0
  have z1 := hW.c1
  have hFw : ¬ (w.heap.size = q ∨ w.heap.size = rb) := fun h => by
    rcases h with h | h
    · have := hr.bound q hr.self; omega
    · have := hbl.lt; omega
  obtain ⟨x0, hx0⟩ : ∃ x0, MD.k0 9 = x0 := ⟨_, rfl⟩
  have HS0 := Lib.hid (RSt.mk hW (hr.bound q hr.self) hbl.lt hn hr.bound hFw (hr.below hW.below) (hbl.below hW.below hbl.lt) (Fr.refl _ _) (MOk.k0 W 9) (MAp.k0 _ 9) hl)
  rw [hx0] at HS0
  have ck : W.cell? ⟨rb, 0, none⟩ = some (.int .i64 9) := (HS0.out.bl.cell 0).trans (by rw [← hx0]; rfl)
  have HX0 := Lib.hid hx0
  clear hr hbl hn hl hFw hW hx0
  go_enter Try.func46, Try.ntmps46
  have HK0 := Lib.hid (cr_num q (r) F rb 1 30 (mCells x0) W.drew (HS0.out.rd.below (Below.refl _ _).drew) HS0.out.bl HS0.out.hn (by show 1 < 16; decide) HS0.out.hl)
  go_wp2_with fail
  go_still_tail 4, (by kernel_rfl)
  go_wp2_with fail
  refine HK0.out.mono ?_
  intro e w1 h4
  have h5 := h4.1
  obtain ⟨x1, hx1⟩ : ∃ x1, ({ x0 with tx := (nC.dec (r)).1 } : MD) = x1 := ⟨_, rfl⟩
  have h6 : RSt w W q rb F x1 ((nC.dec (r)).2) w1 := by
    refine HS0.out.next (wk := W.drew) (x' := x1) (r' := (nC.dec (r)).2) (e := e) (Below.refl _ _).drew ?_ (nC.le _) (fun h => by rw [← hx1]; exact ⟨h.mem, h.mc, h.locks, h.lc, h.rows, h.rc, h.dirty, h.dc, h.deeds, h.ec, h.past, h.pc⟩) (fun h => by rw [← hx1]; exact ⟨h.mem, h.locks, h.rows, h.dirty, h.deeds, h.past, h.row, h.deed⟩)
    rw [← hx1]
    exact h4
  have HS1 := Lib.hid h6
  have HX1 := Lib.hid hx1
  clear h4 h6 hx1
  subst h5
  have a1 : w1.drew.cell? ⟨w.heap.size, 0, none⟩ = some (.pointer none) := HS1.out.co.c0
  have b1 : w1.drew.cell? ⟨w.heap.size, 1, none⟩ = some (.pointer (some ⟨q, 0, none⟩)) := HS1.out.co.c1
  have HK1 := Lib.hid (cr_ints q ((nC.dec (r)).2) F rb 10 30 (mCells x1) none 0 0 w1.drew (HS1.out.rd.below (Below.refl _ _).drew) HS1.out.bl HS1.out.hn (by rw [← HX1.out]; rw [← HX0.out]; rfl) HS1.out.hl)
  go_wp2_with fail
  go_still_tail 4, (by kernel_rfl)
  go_wp2_with fail
  refine HK1.out.mono ?_
  rintro e w2 ⟨A1, c1, l1, rfl, g1, g2, g3, g4, g5, g6⟩
  obtain ⟨x2, hx2⟩ : ∃ x2, ({ x1 with mem := l1, mA := A1, mc := c1 } : MD) = x2 := ⟨_, rfl⟩
  have h6 : RSt w W q rb F x2 ((iC.dec ((nC.dec (r)).2)).2) w2 := by
    refine HS1.out.next (wk := w1.drew) (x' := x2) (r' := (iC.dec ((nC.dec (r)).2)).2) (e := .returned (.tuple #[])) (Below.refl _ _).drew ?_ (iC.le _) (fun h => by rw [← hx2]; exact ⟨is_of_st g2, g4, h.locks, h.lc, h.rows, h.rc, h.dirty, h.dc, h.deeds, h.ec, h.past, h.pc⟩) (fun h => by rw [← hx2]; exact ⟨(fun a ha => Nat.le_trans HS1.out.size (g5 a ha)), h.locks, h.rows, h.dirty, h.deeds, h.past, h.row, h.deed⟩)
    rw [← hx2]
    exact g1
  have HS2 := Lib.hid h6
  have HX2 := Lib.hid hx2
  have HL2 := Lib.hid g3
  clear g1 g2 g3 g4 g5 g6 h6 hx2
  go_wp2
  go_end0
  rw [show fC 9 = decC from rfl]
  unfold decC
  rw [as_dec]
  simp only [pair_dec]
  refine HS2.out.done ?_ ?_
  · rw [← HX2.out]; rw [← HX1.out]; rw [← HX0.out]
    have yHL2 := HL2.out
    rw [List.map_id] at yHL2
    show M.mk _ _ _ _ _ _ _ _ _ _ _ _ _ _ = _
    simp only [MD.m, MD.k0, M.zero, Cd.many, yHL2]
    try rfl
  · rfl
set_option maxHeartbeats 8000000 in
theorem cr_fields10 (q : Nat) (r : Sl.R) (F : Nat → Prop) (rb : Nat) (w : World) (hr : RdAt w q r F) (hbl : Blk w rb 30 (mCells (MD.k0 10))) (hn : ¬ F rb) (hl : r.b.length ≤ 140737488351232) :
    Calls Try.prog 46 #[cr q, .pointer (some ⟨rb, 0, none⟩)] w (FdTo w F q rb ((fC 10).dec r).1 ((fC 10).dec r).2) := by
  obtain ⟨W, hW⟩ := crW w q
  have e := hW.eq
  have z0 := hW.c0
  have z1 := hW.c1
  have hFw : ¬ (w.heap.size = q ∨ w.heap.size = rb) := fun h => by
    rcases h with h | h
    · have := hr.bound q hr.self; omega
    · have := hbl.lt; omega
  obtain ⟨x0, hx0⟩ : ∃ x0, MD.k0 10 = x0 := ⟨_, rfl⟩
  have HS0 := Lib.hid (RSt.mk hW (hr.bound q hr.self) hbl.lt hn hr.bound hFw (hr.below hW.below) (hbl.below hW.below hbl.lt) (Fr.refl _ _) (MOk.k0 W 10) (MAp.k0 _ 10) hl)
  rw [hx0] at HS0
  have ck : W.cell? ⟨rb, 0, none⟩ = some (.int .i64 10) := (HS0.out.bl.cell 0).trans (by rw [← hx0]; rfl)
  have HX0 := Lib.hid hx0
  clear hr hbl hn hl hFw hW hx0
  go_enter Try.func46, Try.ntmps46
  have HK0 := Lib.hid (cr_num q (r) F rb 1 30 (mCells x0) W.drew (HS0.out.rd.below (Below.refl _ _).drew) HS0.out.bl HS0.out.hn (by show 1 < 16; decide) HS0.out.hl)
  go_wp2_with fail
  go_still_tail 4, (by kernel_rfl)
  go_wp2_with fail
  refine HK0.out.mono ?_
  intro e w1 h4
  have h5 := h4.1
  obtain ⟨x1, hx1⟩ : ∃ x1, ({ x0 with tx := (nC.dec (r)).1 } : MD) = x1 := ⟨_, rfl⟩
  have h6 : RSt w W q rb F x1 ((nC.dec (r)).2) w1 := by
    refine HS0.out.next (wk := W.drew) (x' := x1) (r' := (nC.dec (r)).2) (e := e) (Below.refl _ _).drew ?_ (nC.le _) (fun h => by rw [← hx1]; exact ⟨h.mem, h.mc, h.locks, h.lc, h.rows, h.rc, h.dirty, h.dc, h.deeds, h.ec, h.past, h.pc⟩) (fun h => by rw [← hx1]; exact ⟨h.mem, h.locks, h.rows, h.dirty, h.deeds, h.past, h.row, h.deed⟩)
    rw [← hx1]
    exact h4
  have HS1 := Lib.hid h6
  have HX1 := Lib.hid hx1
  clear h4 h6 hx1
  subst h5
  go_wp2
  go_end0
  rw [show fC 10 = forC from rfl]
  unfold forC
  rw [as_dec]
  simp only [pair_dec]
  refine HS1.out.done ?_ ?_
  · rw [← HX1.out]; rw [← HX0.out]
    rfl
  · rfl
set_option maxHeartbeats 8000000 in
theorem cr_fields0 (q : Nat) (r : Sl.R) (F : Nat → Prop) (rb : Nat) (w : World) (hr : RdAt w q r F) (hbl : Blk w rb 30 (mCells (MD.k0 0))) (hn : ¬ F rb) (hl : r.b.length ≤ 140737488351232) :
    Calls Try.prog 46 #[cr q, .pointer (some ⟨rb, 0, none⟩)] w (FdTo w F q rb ((fC 0).dec r).1 ((fC 0).dec r).2) := by
  obtain ⟨W, hW⟩ := crW w q
  have e := hW.eq
  have z0 := hW.c0
  have z1 := hW.c1
  have hFw : ¬ (w.heap.size = q ∨ w.heap.size = rb) := fun h => by
    rcases h with h | h
    · have := hr.bound q hr.self; omega
    · have := hbl.lt; omega
  obtain ⟨x0, hx0⟩ : ∃ x0, MD.k0 0 = x0 := ⟨_, rfl⟩
  have HS0 := Lib.hid (RSt.mk hW (hr.bound q hr.self) hbl.lt hn hr.bound hFw (hr.below hW.below) (hbl.below hW.below hbl.lt) (Fr.refl _ _) (MOk.k0 W 0) (MAp.k0 _ 0) hl)
  rw [hx0] at HS0
  have ck : W.cell? ⟨rb, 0, none⟩ = some (.int .i64 0) := (HS0.out.bl.cell 0).trans (by rw [← hx0]; rfl)
  have HX0 := Lib.hid hx0
  clear hr hbl hn hl hFw hW hx0
  go_enter Try.func46, Try.ntmps46
  go_wp2
  go_end0
  rw [show fC 0 = (noC 0) from rfl]
  unfold noC
  rw [as_dec]
  simp only [pair_dec]
  refine HS0.out.done ?_ ?_
  · rw [← HX0.out]
    rfl
  · rfl
end Go.Proofs.Ytlijfnekopjogaa
