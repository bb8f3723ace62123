/- RecMayR: joined out of RecMayF, RecMayG. -/
import Derived.Test.YtlijfnekopjogaaRecOnlys
import Derived.Test.YtlijfnekopjogaaRecRefD
import Derived.Test.YtlijfnekopjogaaRecAwake
/- The document's records: which may be (printed by gen_mayf.py). -/
namespace Go.Proofs.Ytlijfnekopjogaa
open Go Go.RowKit Mem Rc
set_option maxRecDepth 100000
set_option linter.unusedVariables false
set_option linter.unusedSimpArgs false

theorem exec_load_rec {a : Act} {oi : Oper} {W : World} {b : Nat} {x : MD} (p : Operand) (ho : oi.op = .load 30 p) (hx : a.eval p = .pointer (some ⟨b, 0, none⟩)) (hc : Blk W b 30 (mCells x)) :
    (execOp (Act.eval a) oi).run Try.prog W = .ok (.value (mVal x)) W := by
  unfold execOp
  simp only [ho, hx, Sem.run_bind, rec_load hc, Result.andThen_ok, Sem.run_pure]
/-- what the document's May is walked with -/
structure MyH (x y : MD) (b : Bool) (w W : World) : Prop where
  hb : Below w.heap.size w W
  hx : Blk W w.heap.size 30 (mCells x)
  ok : MOk W x
  sm : Small x
  on : ∀ W, Calls Try.prog 36 #[mVal x] W fun e w' => e = .returned (mVal y) ∧ Below W.heap.size W w'
  same : ∀ W, Below w.heap.size w W → Calls Try.prog 19 #[mVal x, mVal y] W fun e w' => e = .returned (.bool b) ∧ Below W.heap.size W w'
set_option maxHeartbeats 8000000 in
theorem fmay_F (x y : MD) (w : World) (hok : MOk w x) (hs : Small x) (hon : ∀ W, Calls Try.prog 36 #[mVal x] W fun e w' => e = .returned (mVal y) ∧ Below W.heap.size W w') (hsm : ∀ W, Below w.heap.size w W → Calls Try.prog 19 #[mVal x, mVal y] W fun e w' => e = .returned (.bool false) ∧ Below W.heap.size W w') (k1 : decide (x.kind < 1) = false) (k2 : decide (10 < x.kind) = false) :
    Calls Try.prog 14 #[mVal x] w fun e w' => e = .returned (.bool false) ∧ Below w.heap.size w w' := by
  obtain ⟨W, hW⟩ : ∃ W, w.alloc (.cells (mCells x) 30) = W := ⟨_, rfl⟩
  have hb : Below w.heap.size w W := by rw [← hW]; exact (Below.refl _ _).alloc (Nat.le_refl _) _
  have hx : Blk W w.heap.size 30 (mCells x) := by rw [← hW]; exact Blk.new _ _ _
  have c0 : W.cell? ⟨w.heap.size, 0, none⟩ = some (.int .i64 x.kind) := hx.cell 0
  have H := Lib.hid (MyH.mk hb hx (hok.below hb) hs hon hsm)
  clear hb hx hok hs hon hsm
  go_enter Try.func14, Try.ntmps14
  go_wp2_with fail
  refine wp_region_held_drew (S := (fun W => W.cell? ⟨w.heap.size, 0, none⟩ = some (.int .i64 x.kind) ∧ Blk W w.heap.size 30 (mCells x))) (by kernel_rfl) ⟨(show W.drew.cell? _ = _ from c0), H.out.hx.below (Below.refl _ _).drew H.out.hx.lt⟩ (fun hHeld => ?_)
  refine tk 0 3 (h := ?_)
  refine tk 1 4 (h := ?_)
  refine tk 2 5 (h := ?_)
  refine tk 3 6 (h := ?_)
  refine tk 4 7 (h := ?_)
  refine tk 5 8 (h := ?_)
  refine tk 6 9 (h := ?_)
  refine tk 7 10 (h := ?_)
  refine tk 8 11 (h := ?_)
  refine tk 9 12 (hi := rfl) (v := mVal x) (hy := fun W hW => exec_load_rec (x := x) (.tmp 1) rfl (by rfl) hW.2) (h := ?_)
  refine tk 10 13 (hi := rfl) (v := mVal x) (hy := fun W hW => exec_load_rec (x := x) (.tmp 1) rfl (by rfl) hW.2) (h := ?_)
  refine wpAnyH_ready (rs := [11]) (by kernel_rfl) (by simp) ?_
  refine AllReadyH.cons rfl (fun K hK => ?_) AllReadyH.nil
  go_simp
  refine (H.out.on _).mono ?_
  rintro e w8 ⟨rfl, hb8⟩
  have HW8 := Lib.hid (H.out.hb.drew.trans (hb8.mono H.out.hb.drew.size))
  have HV8 := Lib.hid ((Below.refl W.heap.size W).drew.trans (hb8.mono (Nat.le_refl _)))
  have HS8 := And.intro (cell_below hb8 hHeld.1) (hHeld.2.below hb8 hHeld.2.lt)
  clear hb8
  refine hK.out _ _ HS8 (fun hHeld => ?_)
  clear hK K
  try simp only [Act.put, List.setIfInBounds_toArray, List.set_cons_zero, List.set_cons_succ]
  refine wpAnyH_ready (rs := [12]) (by kernel_rfl) (by simp) ?_
  refine AllReadyH.cons rfl (fun K hK => ?_) AllReadyH.nil
  go_simp
  refine (H.out.same _ HW8.out).mono ?_
  rintro e w9 ⟨rfl, hb9⟩
  have HW9 := Lib.hid (HW8.out.trans (hb9.mono HW8.out.size))
  have HV9 := Lib.hid (HV8.out.trans (hb9.mono HV8.out.size))
  have HS9 := And.intro (cell_below hb9 HS8.1) (HS8.2.below hb9 HS8.2.lt)
  clear hb9 HS8
  refine hK.out _ _ HS9 (fun hHeld => ?_)
  clear hK K
  try simp only [Act.put, List.setIfInBounds_toArray, List.set_cons_zero, List.set_cons_succ]
  refine tk 13 16 (h := ?_)
  refine tk 14 17 (h := ?_)
  refine wpAnyH_done (by kernel_rfl) ?_ _
  clear c0
  go_wp2
  go_ret
  exact ⟨rfl, HW9.out⟩
set_option maxHeartbeats 8000000 in
theorem fmay_7 (x y : MD) (w : World) (hok : MOk w x) (hs : Small x) (hon : ∀ W, Calls Try.prog 36 #[mVal x] W fun e w' => e = .returned (mVal y) ∧ Below W.heap.size W w') (hsm : ∀ W, Below w.heap.size w W → Calls Try.prog 19 #[mVal x, mVal y] W fun e w' => e = .returned (.bool true) ∧ Below W.heap.size W w') (k1 : decide (x.kind < 1) = false) (k2 : decide (10 < x.kind) = false) (k7 : (x.kind == 7) = true) :
    Calls Try.prog 14 #[mVal x] w fun e w' => e = .returned (.bool true) ∧ Below w.heap.size w w' := by
  obtain ⟨W, hW⟩ : ∃ W, w.alloc (.cells (mCells x) 30) = W := ⟨_, rfl⟩
  have hb : Below w.heap.size w W := by rw [← hW]; exact (Below.refl _ _).alloc (Nat.le_refl _) _
  have hx : Blk W w.heap.size 30 (mCells x) := by rw [← hW]; exact Blk.new _ _ _
  have c0 : W.cell? ⟨w.heap.size, 0, none⟩ = some (.int .i64 x.kind) := hx.cell 0
  have H := Lib.hid (MyH.mk hb hx (hok.below hb) hs hon hsm)
  clear hb hx hok hs hon hsm
  go_enter Try.func14, Try.ntmps14
  go_wp2_with fail
  refine wp_region_held_drew (S := (fun W => W.cell? ⟨w.heap.size, 0, none⟩ = some (.int .i64 x.kind) ∧ Blk W w.heap.size 30 (mCells x))) (by kernel_rfl) ⟨(show W.drew.cell? _ = _ from c0), H.out.hx.below (Below.refl _ _).drew H.out.hx.lt⟩ (fun hHeld => ?_)
  refine tk 0 3 (h := ?_)
  refine tk 1 4 (h := ?_)
  refine tk 2 5 (h := ?_)
  refine tk 3 6 (h := ?_)
  refine tk 4 7 (h := ?_)
  refine tk 5 8 (h := ?_)
  refine tk 6 9 (h := ?_)
  refine tk 7 10 (h := ?_)
  refine tk 8 11 (h := ?_)
  refine tk 9 12 (hi := rfl) (v := mVal x) (hy := fun W hW => exec_load_rec (x := x) (.tmp 1) rfl (by rfl) hW.2) (h := ?_)
  refine tk 10 13 (hi := rfl) (v := mVal x) (hy := fun W hW => exec_load_rec (x := x) (.tmp 1) rfl (by rfl) hW.2) (h := ?_)
  refine wpAnyH_ready (rs := [11]) (by kernel_rfl) (by simp) ?_
  refine AllReadyH.cons rfl (fun K hK => ?_) AllReadyH.nil
  go_simp
  refine (H.out.on _).mono ?_
  rintro e w8 ⟨rfl, hb8⟩
  have HW8 := Lib.hid (H.out.hb.drew.trans (hb8.mono H.out.hb.drew.size))
  have HV8 := Lib.hid ((Below.refl W.heap.size W).drew.trans (hb8.mono (Nat.le_refl _)))
  have HS8 := And.intro (cell_below hb8 hHeld.1) (hHeld.2.below hb8 hHeld.2.lt)
  clear hb8
  refine hK.out _ _ HS8 (fun hHeld => ?_)
  clear hK K
  try simp only [Act.put, List.setIfInBounds_toArray, List.set_cons_zero, List.set_cons_succ]
  refine wpAnyH_ready (rs := [12]) (by kernel_rfl) (by simp) ?_
  refine AllReadyH.cons rfl (fun K hK => ?_) AllReadyH.nil
  go_simp
  refine (H.out.same _ HW8.out).mono ?_
  rintro e w9 ⟨rfl, hb9⟩
  have HW9 := Lib.hid (HW8.out.trans (hb9.mono HW8.out.size))
  have HV9 := Lib.hid (HV8.out.trans (hb9.mono HV8.out.size))
  have HS9 := And.intro (cell_below hb9 HS8.1) (HS8.2.below hb9 HS8.2.lt)
  clear hb9 HS8
  refine hK.out _ _ HS9 (fun hHeld => ?_)
  clear hK K
  try simp only [Act.put, List.setIfInBounds_toArray, List.set_cons_zero, List.set_cons_succ]
  refine tk 13 16 (h := ?_)
  refine tk 14 17 (h := ?_)
  refine wpAnyH_done (by kernel_rfl) ?_ _
  clear c0
  have c0 := HS9.1
  clear HS9
  go_wp2
  go_ret
  exact ⟨rfl, HW9.out⟩
set_option maxHeartbeats 8000000 in
theorem fmay_8 (x y : MD) (w : World) (hok : MOk w x) (hs : Small x) (hon : ∀ W, Calls Try.prog 36 #[mVal x] W fun e w' => e = .returned (mVal y) ∧ Below W.heap.size W w') (hsm : ∀ W, Below w.heap.size w W → Calls Try.prog 19 #[mVal x, mVal y] W fun e w' => e = .returned (.bool true) ∧ Below W.heap.size W w') (k1 : decide (x.kind < 1) = false) (k2 : decide (10 < x.kind) = false) (k7 : (x.kind == 7) = false) (k8 : (x.kind == 8) = true) :
    Calls Try.prog 14 #[mVal x] w fun e w' => e = .returned (.bool (Rc.check x.m)) ∧ Below w.heap.size w w' := by
  obtain ⟨W, hW⟩ : ∃ W, w.alloc (.cells (mCells x) 30) = W := ⟨_, rfl⟩
  have hb : Below w.heap.size w W := by rw [← hW]; exact (Below.refl _ _).alloc (Nat.le_refl _) _
  have hx : Blk W w.heap.size 30 (mCells x) := by rw [← hW]; exact Blk.new _ _ _
  have c0 : W.cell? ⟨w.heap.size, 0, none⟩ = some (.int .i64 x.kind) := hx.cell 0
  have H := Lib.hid (MyH.mk hb hx (hok.below hb) hs hon hsm)
  clear hb hx hok hs hon hsm
  go_enter Try.func14, Try.ntmps14
  go_wp2_with fail
  refine wp_region_held_drew (S := (fun W => W.cell? ⟨w.heap.size, 0, none⟩ = some (.int .i64 x.kind) ∧ Blk W w.heap.size 30 (mCells x))) (by kernel_rfl) ⟨(show W.drew.cell? _ = _ from c0), H.out.hx.below (Below.refl _ _).drew H.out.hx.lt⟩ (fun hHeld => ?_)
  refine tk 0 3 (h := ?_)
  refine tk 1 4 (h := ?_)
  refine tk 2 5 (h := ?_)
  refine tk 3 6 (h := ?_)
  refine tk 4 7 (h := ?_)
  refine tk 5 8 (h := ?_)
  refine tk 6 9 (h := ?_)
  refine tk 7 10 (h := ?_)
  refine tk 8 11 (h := ?_)
  refine tk 9 12 (hi := rfl) (v := mVal x) (hy := fun W hW => exec_load_rec (x := x) (.tmp 1) rfl (by rfl) hW.2) (h := ?_)
  refine tk 10 13 (hi := rfl) (v := mVal x) (hy := fun W hW => exec_load_rec (x := x) (.tmp 1) rfl (by rfl) hW.2) (h := ?_)
  refine wpAnyH_ready (rs := [11]) (by kernel_rfl) (by simp) ?_
  refine AllReadyH.cons rfl (fun K hK => ?_) AllReadyH.nil
  go_simp
  refine (H.out.on _).mono ?_
  rintro e w8 ⟨rfl, hb8⟩
  have HW8 := Lib.hid (H.out.hb.drew.trans (hb8.mono H.out.hb.drew.size))
  have HV8 := Lib.hid ((Below.refl W.heap.size W).drew.trans (hb8.mono (Nat.le_refl _)))
  have HS8 := And.intro (cell_below hb8 hHeld.1) (hHeld.2.below hb8 hHeld.2.lt)
  clear hb8
  refine hK.out _ _ HS8 (fun hHeld => ?_)
  clear hK K
  try simp only [Act.put, List.setIfInBounds_toArray, List.set_cons_zero, List.set_cons_succ]
  refine wpAnyH_ready (rs := [12]) (by kernel_rfl) (by simp) ?_
  refine AllReadyH.cons rfl (fun K hK => ?_) AllReadyH.nil
  go_simp
  refine (H.out.same _ HW8.out).mono ?_
  rintro e w9 ⟨rfl, hb9⟩
  have HW9 := Lib.hid (HW8.out.trans (hb9.mono HW8.out.size))
  have HV9 := Lib.hid (HV8.out.trans (hb9.mono HV8.out.size))
  have HS9 := And.intro (cell_below hb9 HS8.1) (HS8.2.below hb9 HS8.2.lt)
  clear hb9 HS8
  refine hK.out _ _ HS9 (fun hHeld => ?_)
  clear hK K
  try simp only [Act.put, List.setIfInBounds_toArray, List.set_cons_zero, List.set_cons_succ]
  refine tk 13 16 (h := ?_)
  refine tk 14 17 (h := ?_)
  refine wpAnyH_done (by kernel_rfl) ?_ _
  clear c0
  have c0 := HS9.1
  have hbx := HS9.2
  clear HS9
  go_wp2_with (refine wpList_load_rec' _ (by rfl) (by rfl) (by rfl) hbx ?_)
  refine (fcheck_any x _ (H.out.ok.below (HV9.out)) H.out.sm).mono ?_
  rintro e w3 ⟨rfl, hb3⟩
  have H3 := Lib.hid (HW9.out.trans (hb3.mono HW9.out.size))
  clear hb3 hbx c0
  go_wp2
  go_ret
  exact ⟨rfl, H3.out⟩
set_option maxHeartbeats 8000000 in
theorem fmay_U (x y : MD) (w : World) (hok : MOk w x) (hs : Small x) (hon : ∀ W, Calls Try.prog 36 #[mVal x] W fun e w' => e = .returned (mVal y) ∧ Below W.heap.size W w') (hsm : ∀ W, Below w.heap.size w W → Calls Try.prog 19 #[mVal x, mVal y] W fun e w' => e = .returned (.bool true) ∧ Below W.heap.size W w') (k1 : decide (x.kind < 1) = false) (k2 : decide (10 < x.kind) = false) (k7 : (x.kind == 7) = false) (k8 : (x.kind == 8) = false) (k12 : (x.kind == 1) = true ∨ ((x.kind == 1) = false ∧ (x.kind == 2) = true)) :
    Calls Try.prog 14 #[mVal x] w fun e w' => e = .returned (.bool (Rc.seq x.tx 1 && Rc.seq x.prev 0 && Rc.seq x.nxt 0 && Rc.keyOk x.key && Rc.valOk x.old && Rc.valOk x.new)) ∧ Below w.heap.size w w' := by
  obtain ⟨W, hW⟩ : ∃ W, w.alloc (.cells (mCells x) 30) = W := ⟨_, rfl⟩
  have hb : Below w.heap.size w W := by rw [← hW]; exact (Below.refl _ _).alloc (Nat.le_refl _) _
  have hx : Blk W w.heap.size 30 (mCells x) := by rw [← hW]; exact Blk.new _ _ _
  have c0 : W.cell? ⟨w.heap.size, 0, none⟩ = some (.int .i64 x.kind) := hx.cell 0
  have H := Lib.hid (MyH.mk hb hx (hok.below hb) hs hon hsm)
  clear hb hx hok hs hon hsm
  go_enter Try.func14, Try.ntmps14
  go_wp2_with fail
  refine wp_region_held_drew (S := (fun W => W.cell? ⟨w.heap.size, 0, none⟩ = some (.int .i64 x.kind) ∧ Blk W w.heap.size 30 (mCells x))) (by kernel_rfl) ⟨(show W.drew.cell? _ = _ from c0), H.out.hx.below (Below.refl _ _).drew H.out.hx.lt⟩ (fun hHeld => ?_)
  refine tk 0 3 (h := ?_)
  refine tk 1 4 (h := ?_)
  refine tk 2 5 (h := ?_)
  refine tk 3 6 (h := ?_)
  refine tk 4 7 (h := ?_)
  refine tk 5 8 (h := ?_)
  refine tk 6 9 (h := ?_)
  refine tk 7 10 (h := ?_)
  refine tk 8 11 (h := ?_)
  refine tk 9 12 (hi := rfl) (v := mVal x) (hy := fun W hW => exec_load_rec (x := x) (.tmp 1) rfl (by rfl) hW.2) (h := ?_)
  refine tk 10 13 (hi := rfl) (v := mVal x) (hy := fun W hW => exec_load_rec (x := x) (.tmp 1) rfl (by rfl) hW.2) (h := ?_)
  refine wpAnyH_ready (rs := [11]) (by kernel_rfl) (by simp) ?_
  refine AllReadyH.cons rfl (fun K hK => ?_) AllReadyH.nil
  go_simp
  refine (H.out.on _).mono ?_
  rintro e w8 ⟨rfl, hb8⟩
  have HW8 := Lib.hid (H.out.hb.drew.trans (hb8.mono H.out.hb.drew.size))
  have HV8 := Lib.hid ((Below.refl W.heap.size W).drew.trans (hb8.mono (Nat.le_refl _)))
  have HS8 := And.intro (cell_below hb8 hHeld.1) (hHeld.2.below hb8 hHeld.2.lt)
  clear hb8
  refine hK.out _ _ HS8 (fun hHeld => ?_)
  clear hK K
  try simp only [Act.put, List.setIfInBounds_toArray, List.set_cons_zero, List.set_cons_succ]
  refine wpAnyH_ready (rs := [12]) (by kernel_rfl) (by simp) ?_
  refine AllReadyH.cons rfl (fun K hK => ?_) AllReadyH.nil
  go_simp
  refine (H.out.same _ HW8.out).mono ?_
  rintro e w9 ⟨rfl, hb9⟩
  have HW9 := Lib.hid (HW8.out.trans (hb9.mono HW8.out.size))
  have HV9 := Lib.hid (HV8.out.trans (hb9.mono HV8.out.size))
  have HS9 := And.intro (cell_below hb9 HS8.1) (HS8.2.below hb9 HS8.2.lt)
  clear hb9 HS8
  refine hK.out _ _ HS9 (fun hHeld => ?_)
  clear hK K
  try simp only [Act.put, List.setIfInBounds_toArray, List.set_cons_zero, List.set_cons_succ]
  refine tk 13 16 (h := ?_)
  refine tk 14 17 (h := ?_)
  refine wpAnyH_done (by kernel_rfl) ?_ _
  clear c0
  have c0 := HS9.1
  have c1 : w9.cell? ⟨w.heap.size, 1, none⟩ = some (.int .i64 x.tx) := HS9.2.cell 1
  have c2 : w9.cell? ⟨w.heap.size, 2, none⟩ = some (.int .i64 x.prev) := HS9.2.cell 2
  have c3 : w9.cell? ⟨w.heap.size, 3, none⟩ = some (.int .i64 x.nxt) := HS9.2.cell 3
  have HB9 := Lib.hid HS9.2
  clear HS9
  go_wp2_with fail
  refine (fseq_any x.tx 1 _).mono ?_
  cases s1 : Rc.seq x.tx 1 with
  | false =>
    rintro e w2 ⟨rfl, hw2⟩
    obtain rfl : w9 = w2 := hw2.symm
    go_wp2
    go_ret
    exact ⟨by first | rfl | (simp only [s1, Bool.false_and, Bool.true_and, Bool.and_false]; rfl), HW9.out⟩
  | true =>
    rintro e w2 ⟨rfl, hw2⟩
    obtain rfl : w9 = w2 := hw2.symm
    go_wp2_with fail
    refine (fseq_any x.prev 0 _).mono ?_
    cases s2 : Rc.seq x.prev 0 with
    | false =>
      rintro e w2 ⟨rfl, hw2⟩
      obtain rfl : w9 = w2 := hw2.symm
      go_wp2
      go_ret
      exact ⟨by first | rfl | (simp only [s1, s2, Bool.false_and, Bool.true_and, Bool.and_false]; rfl), HW9.out⟩
    | true =>
      rintro e w2 ⟨rfl, hw2⟩
      obtain rfl : w9 = w2 := hw2.symm
      go_wp2_with fail
      refine (fseq_any x.nxt 0 _).mono ?_
      cases s3 : Rc.seq x.nxt 0 with
      | false =>
        rintro e w2 ⟨rfl, hw2⟩
        obtain rfl : w9 = w2 := hw2.symm
        go_wp2
        go_ret
        exact ⟨by first | rfl | (simp only [s1, s2, s3, Bool.false_and, Bool.true_and, Bool.and_false]; rfl), HW9.out⟩
      | true =>
        rintro e w2 ⟨rfl, hw2⟩
        obtain rfl : w9 = w2 := hw2.symm
        have c4 : w9.cell? ⟨w.heap.size, 4, none⟩ = some (.string x.key) := HB9.out.cell 4
        have c5 : w9.cell? ⟨w.heap.size, 5, none⟩ = some (.bool x.old.has) := HB9.out.cell 5
        have c6 : w9.cell? ⟨w.heap.size, 6, none⟩ = some (.string x.old.data) := HB9.out.cell 6
        have c7 : w9.cell? ⟨w.heap.size, 7, none⟩ = some (.bool x.new.has) := HB9.out.cell 7
        have c8 : w9.cell? ⟨w.heap.size, 8, none⟩ = some (.string x.new.data) := HB9.out.cell 8
        rcases k12 with k12 | ⟨k11, k12⟩
        all_goals
          go_wp2_with fail
          refine (fkey_any x.key _).mono ?_
          cases s4 : Rc.keyOk x.key with
          | false =>
            rintro e w2 ⟨rfl, hw2⟩
            obtain rfl : w9 = w2 := hw2.symm
            go_wp2
            go_ret
            exact ⟨by simp only [s1, s2, s3, Bool.false_and, Bool.true_and, Bool.and_false, Bool.and_true, s4]; rfl, HW9.out⟩
          | true =>
            rintro e w2 ⟨rfl, hw2⟩
            obtain rfl : w9 = w2 := hw2.symm
            go_wp2_with fail
            refine (fvalue_any x.old _).mono ?_
            cases s5 : Rc.valOk x.old with
            | false =>
              rintro e w2 ⟨rfl, hb2⟩
              have H2 := Lib.hid (HW9.out.trans (hb2.mono HW9.out.size))
              clear hb2
              go_wp2
              go_ret
              exact ⟨by simp only [s1, s2, s3, Bool.false_and, Bool.true_and, Bool.and_false, Bool.and_true, s4, s5]; rfl, H2.out⟩
            | true =>
              rintro e w2 ⟨rfl, hb2⟩
              have H2 := Lib.hid (HW9.out.trans (hb2.mono HW9.out.size))
              have e7 := cell_below hb2 c7
              have e8 := cell_below hb2 c8
              clear hb2 c0 c1 c2 c3 c4 c5 c6 c7 c8
              go_wp2_with fail
              refine (fvalue_any x.new _).mono ?_
              rintro e w3 ⟨rfl, hb3⟩
              have H3 := Lib.hid (H2.out.trans (hb3.mono H2.out.size))
              clear hb3
              go_wp2
              go_ret
              exact ⟨by simp only [s1, s2, s3, s4, s5, Bool.true_and]; rfl, H3.out⟩
set_option maxHeartbeats 8000000 in
theorem fmay_R (x y : MD) (w : World) (hok : MOk w x) (hs : Small x) (hon : ∀ W, Calls Try.prog 36 #[mVal x] W fun e w' => e = .returned (mVal y) ∧ Below W.heap.size W w') (hsm : ∀ W, Below w.heap.size w W → Calls Try.prog 19 #[mVal x, mVal y] W fun e w' => e = .returned (.bool true) ∧ Below W.heap.size W w') (k1 : decide (x.kind < 1) = false) (k2 : decide (10 < x.kind) = false) (k7 : (x.kind == 7) = false) (k8 : (x.kind == 8) = false) (k11 : (x.kind == 1) = false) (k12 : (x.kind == 2) = false) :
    Calls Try.prog 14 #[mVal x] w fun e w' => e = .returned (.bool (Rc.seq x.tx 1 && Rc.seq x.prev 0 && Rc.seq x.nxt 0 && Rc.node x.coord && Rc.members x.mem && Rc.locks x.locks)) ∧ Below w.heap.size w w' := by
  obtain ⟨W, hW⟩ : ∃ W, w.alloc (.cells (mCells x) 30) = W := ⟨_, rfl⟩
  have hb : Below w.heap.size w W := by rw [← hW]; exact (Below.refl _ _).alloc (Nat.le_refl _) _
  have hx : Blk W w.heap.size 30 (mCells x) := by rw [← hW]; exact Blk.new _ _ _
  have c0 : W.cell? ⟨w.heap.size, 0, none⟩ = some (.int .i64 x.kind) := hx.cell 0
  have H := Lib.hid (MyH.mk hb hx (hok.below hb) hs hon hsm)
  clear hb hx hok hs hon hsm
  go_enter Try.func14, Try.ntmps14
  go_wp2_with fail
  refine wp_region_held_drew (S := (fun W => W.cell? ⟨w.heap.size, 0, none⟩ = some (.int .i64 x.kind) ∧ Blk W w.heap.size 30 (mCells x))) (by kernel_rfl) ⟨(show W.drew.cell? _ = _ from c0), H.out.hx.below (Below.refl _ _).drew H.out.hx.lt⟩ (fun hHeld => ?_)
  refine tk 0 3 (h := ?_)
  refine tk 1 4 (h := ?_)
  refine tk 2 5 (h := ?_)
  refine tk 3 6 (h := ?_)
  refine tk 4 7 (h := ?_)
  refine tk 5 8 (h := ?_)
  refine tk 6 9 (h := ?_)
  refine tk 7 10 (h := ?_)
  refine tk 8 11 (h := ?_)
  refine tk 9 12 (hi := rfl) (v := mVal x) (hy := fun W hW => exec_load_rec (x := x) (.tmp 1) rfl (by rfl) hW.2) (h := ?_)
  refine tk 10 13 (hi := rfl) (v := mVal x) (hy := fun W hW => exec_load_rec (x := x) (.tmp 1) rfl (by rfl) hW.2) (h := ?_)
  refine wpAnyH_ready (rs := [11]) (by kernel_rfl) (by simp) ?_
  refine AllReadyH.cons rfl (fun K hK => ?_) AllReadyH.nil
  go_simp
  refine (H.out.on _).mono ?_
  rintro e w8 ⟨rfl, hb8⟩
  have HW8 := Lib.hid (H.out.hb.drew.trans (hb8.mono H.out.hb.drew.size))
  have HV8 := Lib.hid ((Below.refl W.heap.size W).drew.trans (hb8.mono (Nat.le_refl _)))
  have HS8 := And.intro (cell_below hb8 hHeld.1) (hHeld.2.below hb8 hHeld.2.lt)
  clear hb8
  refine hK.out _ _ HS8 (fun hHeld => ?_)
  clear hK K
  try simp only [Act.put, List.setIfInBounds_toArray, List.set_cons_zero, List.set_cons_succ]
  refine wpAnyH_ready (rs := [12]) (by kernel_rfl) (by simp) ?_
  refine AllReadyH.cons rfl (fun K hK => ?_) AllReadyH.nil
  go_simp
  refine (H.out.same _ HW8.out).mono ?_
  rintro e w9 ⟨rfl, hb9⟩
  have HW9 := Lib.hid (HW8.out.trans (hb9.mono HW8.out.size))
  have HV9 := Lib.hid (HV8.out.trans (hb9.mono HV8.out.size))
  have HS9 := And.intro (cell_below hb9 HS8.1) (HS8.2.below hb9 HS8.2.lt)
  clear hb9 HS8
  refine hK.out _ _ HS9 (fun hHeld => ?_)
  clear hK K
  try simp only [Act.put, List.setIfInBounds_toArray, List.set_cons_zero, List.set_cons_succ]
  refine tk 13 16 (h := ?_)
  refine tk 14 17 (h := ?_)
  refine wpAnyH_done (by kernel_rfl) ?_ _
  clear c0
  have c0 := HS9.1
  have c1 : w9.cell? ⟨w.heap.size, 1, none⟩ = some (.int .i64 x.tx) := HS9.2.cell 1
  have c2 : w9.cell? ⟨w.heap.size, 2, none⟩ = some (.int .i64 x.prev) := HS9.2.cell 2
  have c3 : w9.cell? ⟨w.heap.size, 3, none⟩ = some (.int .i64 x.nxt) := HS9.2.cell 3
  have HB9 := Lib.hid HS9.2
  clear HS9
  go_wp2_with fail
  refine (fseq_any x.tx 1 _).mono ?_
  cases s1 : Rc.seq x.tx 1 with
  | false =>
    rintro e w2 ⟨rfl, hw2⟩
    obtain rfl : w9 = w2 := hw2.symm
    go_wp2
    go_ret
    exact ⟨by first | rfl | (simp only [s1, Bool.false_and, Bool.true_and, Bool.and_false]; rfl), HW9.out⟩
  | true =>
    rintro e w2 ⟨rfl, hw2⟩
    obtain rfl : w9 = w2 := hw2.symm
    go_wp2_with fail
    refine (fseq_any x.prev 0 _).mono ?_
    cases s2 : Rc.seq x.prev 0 with
    | false =>
      rintro e w2 ⟨rfl, hw2⟩
      obtain rfl : w9 = w2 := hw2.symm
      go_wp2
      go_ret
      exact ⟨by first | rfl | (simp only [s1, s2, Bool.false_and, Bool.true_and, Bool.and_false]; rfl), HW9.out⟩
    | true =>
      rintro e w2 ⟨rfl, hw2⟩
      obtain rfl : w9 = w2 := hw2.symm
      go_wp2_with fail
      refine (fseq_any x.nxt 0 _).mono ?_
      cases s3 : Rc.seq x.nxt 0 with
      | false =>
        rintro e w2 ⟨rfl, hw2⟩
        obtain rfl : w9 = w2 := hw2.symm
        go_wp2
        go_ret
        exact ⟨by first | rfl | (simp only [s1, s2, s3, Bool.false_and, Bool.true_and, Bool.and_false]; rfl), HW9.out⟩
      | true =>
        rintro e w2 ⟨rfl, hw2⟩
        obtain rfl : w9 = w2 := hw2.symm
        have c9 : w9.cell? ⟨w.heap.size, 9, none⟩ = some (.int .i64 x.coord) := HB9.out.cell 9
        obtain ⟨nm, hnm⟩ : ∃ nm, x.mem.length = nm := ⟨_, rfl⟩
        obtain ⟨nl, hnl⟩ : ∃ nl, x.locks.length = nl := ⟨_, rfl⟩
        have c10 : w9.cell? ⟨w.heap.size, 10, none⟩ = some (.slice x.mA nm x.mc) := (HB9.out.cell 10).trans (by rw [← hnm]; rfl)
        have c11 : w9.cell? ⟨w.heap.size, 11, none⟩ = some (.slice x.lA nl x.lc) := (HB9.out.cell 11).trans (by rw [← hnl]; rfl)
        have HN := Lib.hid (And.intro hnm hnl)
        clear hnm hnl
        have hnode : Rc.node x.coord = (decide (0 ≤ x.coord) && decide (x.coord ≤ 7)) := by simp only [Rc.node]; (first | rfl | (congr 1; exact decide_eq_decide.2 (by omega)))
        have HND := Lib.hid hnode
        clear hnode
        cases s4 : decide (0 ≤ x.coord) with
        | false =>
          go_wp2
          go_ret
          exact ⟨by rw [HND.out]; simp only [s1, s2, s3, Bool.false_and, Bool.true_and, Bool.and_false, Bool.and_true, s4]; rfl, HW9.out⟩
        | true =>
          cases s5 : decide (x.coord ≤ 7) with
          | false =>
            go_wp2
            go_ret
            exact ⟨by rw [HND.out]; simp only [s1, s2, s3, Bool.false_and, Bool.true_and, Bool.and_false, Bool.and_true, s4, s5]; rfl, HW9.out⟩
          | true =>
            go_wp2_with fail
            refine (fmembers_any x.mA nm x.mc x.mem _ (by have g := (H.out.ok.below HV9.out).mem; rw [HN.out.1] at g; exact g) (by rw [← HN.out.1]; exact H.out.sm.mem)).mono ?_
            cases s6 : Rc.members x.mem with
            | false =>
              rintro e w2 ⟨rfl, hb2⟩
              have H2 := Lib.hid (HW9.out.trans (hb2.mono HW9.out.size))
              clear hb2
              go_wp2
              go_ret
              exact ⟨by rw [HND.out]; simp only [s1, s2, s3, Bool.false_and, Bool.true_and, Bool.and_false, Bool.and_true, s4, s5, s6]; rfl, H2.out⟩
            | true =>
              rintro e w2 ⟨rfl, hb2⟩
              have H2 := Lib.hid (And.intro (HW9.out.trans (hb2.mono HW9.out.size)) (HV9.out.trans (hb2.mono HV9.out.size)))
              have e11 := cell_below hb2 c11
              clear hb2 c0 c1 c2 c3 c9 c10 c11
              go_wp2_with fail
              refine (flocks_any x.lA nl x.lc x.locks _ (by have g := (H.out.ok.below H2.out.2).locks; rw [HN.out.2] at g; exact g) (by rw [← HN.out.2]; exact H.out.sm.locks)).mono ?_
              rintro e w3 ⟨rfl, hb3⟩
              have H3 := Lib.hid (H2.out.1.trans (hb3.mono H2.out.1.size))
              clear hb3
              go_wp2
              go_ret
              exact ⟨by rw [HND.out]; simp only [s1, s2, s3, s4, s5, s6, Bool.true_and]; rfl, H3.out⟩
end Go.Proofs.Ytlijfnekopjogaa

/- The document's records: which may be, in plain words. -/
namespace Go.Proofs.Ytlijfnekopjogaa
open Go Go.RowKit Mem Rc
set_option maxRecDepth 100000
set_option linter.unusedVariables false
set_option linter.unusedSimpArgs false

theorem key_iff (k : ByteArray) : ((⟨#[]⟩ : ByteArray) = k) ↔ k.toList.isEmpty = true := ⟨fun h => by rw [← h, ba_nil]; rfl, fun h => (empty_of h).symm⟩
theorem none_iff (v : V) : (V.zero = v) ↔ v.none_ = true := ⟨fun h => by rw [← h]; unfold V.none_ V.zero; rw [ba_nil]; rfl, fun h => (none_zero h).symm⟩
theorem m_ext {a b : M} (h0 : a.kind = b.kind) (h1 : a.tx = b.tx) (h2 : a.prev = b.prev) (h3 : a.nxt = b.nxt) (h4 : a.key = b.key) (h5 : a.old = b.old) (h6 : a.new = b.new) (h7 : a.coord = b.coord) (h8 : a.mem = b.mem) (h9 : a.locks = b.locks) (h10 : a.rows = b.rows) (h11 : a.dirty = b.dirty) (h12 : a.deeds = b.deeds) (h13 : a.past = b.past) : a = b := by
  obtain ⟨⟩ := a
  obtain ⟨⟩ := b
  simp only at h0 h1 h2 h3 h4 h5 h6 h7 h8 h9 h10 h11 h12 h13
  subst h0 h1 h2 h3 h4 h5 h6 h7 h8 h9 h10 h11 h12 h13
  rfl
/-- two, of which the second has each field as the first, or none -/
structure Zer (x y : MD) : Prop where
  kind : y.kind = x.kind
  tx : y.tx = x.tx ∨ y.tx = 0
  prev : y.prev = x.prev ∨ y.prev = 0
  nxt : y.nxt = x.nxt ∨ y.nxt = 0
  key : y.key = x.key ∨ y.key = ⟨#[]⟩
  old : y.old = x.old ∨ y.old = V.zero
  new : y.new = x.new ∨ y.new = V.zero
  coord : y.coord = x.coord ∨ y.coord = 0
  mem : y.mem = x.mem ∨ y.mem = []
  locks : y.locks = x.locks ∨ y.locks = []
  lists : (y.rows = x.rows ∧ y.dirty = x.dirty ∧ y.deeds = x.deeds ∧ y.past = x.past) ∨ (y.rows = [] ∧ y.dirty = [] ∧ y.deeds = [] ∧ y.past = [])
theorem beq_no {a b : Int} (hz : b = 0) (h : ¬ b = a) : (a == 0) = false := by rw [beq_eq_false_iff_ne]; intro e; exact h (hz.trans e.symm)
theorem val_no {v z : V} (hz : z = V.zero) (h : ¬ z = v) : v.has = true ∨ (v.has = false ∧ v.data.toList.isEmpty = false) := by
  cases hh : v.has with
  | true => exact .inl rfl
  | false =>
    refine .inr ⟨rfl, ?_⟩
    cases hd : v.data.toList.isEmpty with
    | false => rfl
    | true =>
      exfalso
      apply h
      rw [hz]
      exact (none_iff v).2 (by unfold V.none_; rw [hh, hd]; rfl)
theorem len_no {α : Type} {l z : List α} (hz : z = []) (h : ¬ z = l) : l.length ≠ z.length := by
  intro e
  rw [hz] at e h
  exact h (List.eq_nil_of_length_eq_zero e).symm
theorem same_zero (x y : MD) (z : Zer x y) (hs : Small x) : ∃ b : Bool, (b = true ↔ y.m = x.m) ∧ ∀ w, MOk w x → MOk w y → Calls Try.prog 19 #[mVal x, mVal y] w (fun e w' => e = .returned (.bool b) ∧ Below w.heap.size w w') := by
  by_cases hm : y.m = x.m
  · exact ⟨true, by simp [hm], fun w hx hy => same07_eq x y w hx hy hs hm.symm⟩
  refine ⟨false, by simp [hm], fun w hx hy => ?_⟩
  have q0 := z.kind
  by_cases q1 : y.tx = x.tx
  case neg => exact same07_ne1 x y w q0 (z.tx.resolve_left q1) (beq_no (z.tx.resolve_left q1) q1)
  by_cases q2 : y.prev = x.prev
  case neg => exact same07_ne2 x y w q0 q1 (z.prev.resolve_left q2) (beq_no (z.prev.resolve_left q2) q2)
  by_cases q3 : y.nxt = x.nxt
  case neg => exact same07_ne3 x y w q0 q1 q2 (z.nxt.resolve_left q3) (beq_no (z.nxt.resolve_left q3) q3)
  by_cases q4 : y.key = x.key
  case neg =>
    have hz := z.key.resolve_left q4
    refine same07_ne4 x y w q0 q1 q2 q3 hz ?_
    cases hd : x.key.toList.isEmpty with
    | false => rfl
    | true => exact absurd (hz.trans ((key_iff _).2 hd)) q4
  by_cases q5 : y.old = x.old
  case neg =>
    have hz := z.old.resolve_left q5
    rcases val_no hz q5 with h | ⟨h1, h2⟩
    · exact same07_ne5 x y w q0 q1 q2 q3 q4 hz h
    · exact same07_ne5b x y w q0 q1 q2 q3 q4 hz h1 h2
  by_cases q6 : y.new = x.new
  case neg =>
    have hz := z.new.resolve_left q6
    rcases val_no hz q6 with h | ⟨h1, h2⟩
    · exact same07_ne6 x y w q0 q1 q2 q3 q4 q5 hz h
    · exact same07_ne6b x y w q0 q1 q2 q3 q4 q5 hz h1 h2
  by_cases q7 : y.coord = x.coord
  case neg => exact same07_ne7 x y w q0 q1 q2 q3 q4 q5 q6 (z.coord.resolve_left q7) (beq_no (z.coord.resolve_left q7) q7)
  by_cases q8 : y.mem = x.mem
  case neg => exact same07_ne8 x y w q0 q1 q2 q3 q4 q5 q6 q7 (len_no (z.mem.resolve_left q8) q8)
  by_cases q9 : y.locks = x.locks
  case neg => exact same07_ne9 x y w hx hy hs q0 q1 q2 q3 q4 q5 q6 q7 q8 (len_no (z.locks.resolve_left q9) q9)
  have hl : ∀ W, Calls Try.prog 57 #[mVal x, mVal y] W (FalseP W) := by
    intro W
    have no : ¬ (y.rows = x.rows ∧ y.dirty = x.dirty ∧ y.deeds = x.deeds ∧ y.past = x.past) := fun ⟨a, b, c, d⟩ => hm (m_ext q0 q1 q2 q3 q4 q5 q6 q7 q8 q9 (congrArg (List.map RwD.r) a) b (congrArg (List.map DeD.d) c) d)
    obtain ⟨a, b, c, d⟩ := z.lists.resolve_left no
    by_cases r0 : y.rows = x.rows
    case neg => exact sameLists_ne0 x y W (len_no a r0)
    by_cases r1 : y.dirty = x.dirty
    case neg => exact sameLists_ne1 x y W (by rw [r0]) (len_no b r1)
    by_cases r2 : y.deeds = x.deeds
    case neg => exact sameLists_ne2 x y W (by rw [r0]) (by rw [r1]) (len_no c r2)
    by_cases r3 : y.past = x.past
    case neg => exact sameLists_ne3 x y W (by rw [r0]) (by rw [r1]) (by rw [r2]) (len_no d r3)
    exact absurd ⟨r0, r1, r2, r3⟩ no
  exact same07_ne10 x y w hx hy hs q0 q1 q2 q3 q4 q5 q6 q7 q8 q9 hl
theorem zer1 (x : MD) (hk : x.kind = 1) : Zer x (only1 x) := ⟨hk.symm, .inl rfl, .inl rfl, .inr rfl, .inl rfl, .inl rfl, .inl rfl, .inr rfl, .inr rfl, .inr rfl, .inr ⟨rfl, rfl, rfl, rfl⟩⟩
theorem onok1 (x : MD) (w : World) (h : MOk w x) : MOk w (only1 x) :=
  have z := MOk.k0 w 1
  ⟨z.mem, z.mc, z.locks, z.lc, z.rows, z.rc, z.dirty, z.dc, z.deeds, z.ec, z.past, z.pc⟩
theorem zer2 (x : MD) (hk : x.kind = 2) : Zer x (only2 x) := ⟨hk.symm, .inl rfl, .inl rfl, .inl rfl, .inl rfl, .inr rfl, .inl rfl, .inr rfl, .inr rfl, .inr rfl, .inr ⟨rfl, rfl, rfl, rfl⟩⟩
theorem onok2 (x : MD) (w : World) (h : MOk w x) : MOk w (only2 x) :=
  have z := MOk.k0 w 2
  ⟨z.mem, z.mc, z.locks, z.lc, z.rows, z.rc, z.dirty, z.dc, z.deeds, z.ec, z.past, z.pc⟩
theorem zer3 (x : MD) (hk : x.kind = 3) : Zer x (only3 x) := ⟨hk.symm, .inl rfl, .inl rfl, .inr rfl, .inr rfl, .inr rfl, .inr rfl, .inl rfl, .inl rfl, .inl rfl, .inr ⟨rfl, rfl, rfl, rfl⟩⟩
theorem onok3 (x : MD) (w : World) (h : MOk w x) : MOk w (only3 x) :=
  have z := MOk.k0 w 3
  ⟨h.mem, h.mc, h.locks, h.lc, z.rows, z.rc, z.dirty, z.dc, z.deeds, z.ec, z.past, z.pc⟩
theorem zer4 (x : MD) (hk : x.kind = 4) : Zer x (only4 x) := ⟨hk.symm, .inl rfl, .inl rfl, .inr rfl, .inr rfl, .inr rfl, .inr rfl, .inr rfl, .inr rfl, .inr rfl, .inr ⟨rfl, rfl, rfl, rfl⟩⟩
theorem onok4 (x : MD) (w : World) (h : MOk w x) : MOk w (only4 x) :=
  have z := MOk.k0 w 4
  ⟨z.mem, z.mc, z.locks, z.lc, z.rows, z.rc, z.dirty, z.dc, z.deeds, z.ec, z.past, z.pc⟩
theorem zer5 (x : MD) (hk : x.kind = 5) : Zer x (only5 x) := ⟨hk.symm, .inl rfl, .inl rfl, .inr rfl, .inr rfl, .inr rfl, .inr rfl, .inr rfl, .inr rfl, .inr rfl, .inr ⟨rfl, rfl, rfl, rfl⟩⟩
theorem onok5 (x : MD) (w : World) (h : MOk w x) : MOk w (only5 x) :=
  have z := MOk.k0 w 5
  ⟨z.mem, z.mc, z.locks, z.lc, z.rows, z.rc, z.dirty, z.dc, z.deeds, z.ec, z.past, z.pc⟩
theorem zer6 (x : MD) (hk : x.kind = 6) : Zer x (only6 x) := ⟨hk.symm, .inl rfl, .inl rfl, .inr rfl, .inr rfl, .inr rfl, .inr rfl, .inr rfl, .inr rfl, .inr rfl, .inr ⟨rfl, rfl, rfl, rfl⟩⟩
theorem onok6 (x : MD) (w : World) (h : MOk w x) : MOk w (only6 x) :=
  have z := MOk.k0 w 6
  ⟨z.mem, z.mc, z.locks, z.lc, z.rows, z.rc, z.dirty, z.dc, z.deeds, z.ec, z.past, z.pc⟩
theorem zer7 (x : MD) (hk : x.kind = 7) : Zer x (only7 x) := ⟨hk.symm, .inr rfl, .inr rfl, .inr rfl, .inr rfl, .inr rfl, .inr rfl, .inr rfl, .inr rfl, .inr rfl, .inr ⟨rfl, rfl, rfl, rfl⟩⟩
theorem onok7 (x : MD) (w : World) (h : MOk w x) : MOk w (only7 x) :=
  have z := MOk.k0 w 7
  ⟨z.mem, z.mc, z.locks, z.lc, z.rows, z.rc, z.dirty, z.dc, z.deeds, z.ec, z.past, z.pc⟩
theorem zer8 (x : MD) (hk : x.kind = 8) : Zer x (only8 x) := ⟨hk.symm, .inr rfl, .inr rfl, .inr rfl, .inr rfl, .inr rfl, .inr rfl, .inr rfl, .inr rfl, .inr rfl, .inl ⟨rfl, rfl, rfl, rfl⟩⟩
theorem onok8 (x : MD) (w : World) (h : MOk w x) : MOk w (only8 x) :=
  have z := MOk.k0 w 8
  ⟨z.mem, z.mc, z.locks, z.lc, h.rows, h.rc, h.dirty, h.dc, h.deeds, h.ec, h.past, h.pc⟩
theorem zer9 (x : MD) (hk : x.kind = 9) : Zer x (only9 x) := ⟨hk.symm, .inl rfl, .inr rfl, .inr rfl, .inr rfl, .inr rfl, .inr rfl, .inr rfl, .inl rfl, .inr rfl, .inr ⟨rfl, rfl, rfl, rfl⟩⟩
theorem onok9 (x : MD) (w : World) (h : MOk w x) : MOk w (only9 x) :=
  have z := MOk.k0 w 9
  ⟨h.mem, h.mc, z.locks, z.lc, z.rows, z.rc, z.dirty, z.dc, z.deeds, z.ec, z.past, z.pc⟩
theorem zer10 (x : MD) (hk : x.kind = 10) : Zer x (only10 x) := ⟨hk.symm, .inl rfl, .inr rfl, .inr rfl, .inr rfl, .inr rfl, .inr rfl, .inr rfl, .inr rfl, .inr rfl, .inr ⟨rfl, rfl, rfl, rfl⟩⟩
theorem onok10 (x : MD) (w : World) (h : MOk w x) : MOk w (only10 x) :=
  have z := MOk.k0 w 10
  ⟨z.mem, z.mc, z.locks, z.lc, z.rows, z.rc, z.dirty, z.dc, z.deeds, z.ec, z.past, z.pc⟩
theorem oniff1 (x : MD) (hk : x.kind = 1) : (only1 x).m = x.m ↔ Rc.spare x.m = false := by
  have e1 : ∀ a : Int, (0 = a) ↔ (a = 0) := fun a => eq_comm
  simp [only1, MD.m, MD.k0, Rc.spare, Rc.wants, hk, key_iff, none_iff, e1, Nat.add_eq_zero_iff, and_assoc]
  try (constructor <;> intro h <;> simp_all)
theorem oniff2 (x : MD) (hk : x.kind = 2) : (only2 x).m = x.m ↔ Rc.spare x.m = false := by
  have e1 : ∀ a : Int, (0 = a) ↔ (a = 0) := fun a => eq_comm
  simp [only2, MD.m, MD.k0, Rc.spare, Rc.wants, hk, key_iff, none_iff, e1, Nat.add_eq_zero_iff, and_assoc]
  try (constructor <;> intro h <;> simp_all)
theorem oniff3 (x : MD) (hk : x.kind = 3) : (only3 x).m = x.m ↔ Rc.spare x.m = false := by
  have e1 : ∀ a : Int, (0 = a) ↔ (a = 0) := fun a => eq_comm
  simp [only3, MD.m, MD.k0, Rc.spare, Rc.wants, hk, key_iff, none_iff, e1, Nat.add_eq_zero_iff, and_assoc]
  try (constructor <;> intro h <;> simp_all)
theorem oniff4 (x : MD) (hk : x.kind = 4) : (only4 x).m = x.m ↔ Rc.spare x.m = false := by
  have e1 : ∀ a : Int, (0 = a) ↔ (a = 0) := fun a => eq_comm
  simp [only4, MD.m, MD.k0, Rc.spare, Rc.wants, hk, key_iff, none_iff, e1, Nat.add_eq_zero_iff, and_assoc]
  try (constructor <;> intro h <;> simp_all)
theorem oniff5 (x : MD) (hk : x.kind = 5) : (only5 x).m = x.m ↔ Rc.spare x.m = false := by
  have e1 : ∀ a : Int, (0 = a) ↔ (a = 0) := fun a => eq_comm
  simp [only5, MD.m, MD.k0, Rc.spare, Rc.wants, hk, key_iff, none_iff, e1, Nat.add_eq_zero_iff, and_assoc]
  try (constructor <;> intro h <;> simp_all)
theorem oniff6 (x : MD) (hk : x.kind = 6) : (only6 x).m = x.m ↔ Rc.spare x.m = false := by
  have e1 : ∀ a : Int, (0 = a) ↔ (a = 0) := fun a => eq_comm
  simp [only6, MD.m, MD.k0, Rc.spare, Rc.wants, hk, key_iff, none_iff, e1, Nat.add_eq_zero_iff, and_assoc]
  try (constructor <;> intro h <;> simp_all)
theorem oniff7 (x : MD) (hk : x.kind = 7) : (only7 x).m = x.m ↔ Rc.spare x.m = false ∧ x.tx = 0 := by
  have e1 : ∀ a : Int, (0 = a) ↔ (a = 0) := fun a => eq_comm
  simp [only7, MD.m, MD.k0, Rc.spare, Rc.wants, hk, key_iff, none_iff, e1, Nat.add_eq_zero_iff, and_assoc]
  try (constructor <;> intro h <;> simp_all)
theorem oniff8 (x : MD) (hk : x.kind = 8) : (only8 x).m = x.m ↔ Rc.spare x.m = false ∧ x.tx = 0 := by
  have e1 : ∀ a : Int, (0 = a) ↔ (a = 0) := fun a => eq_comm
  simp [only8, MD.m, MD.k0, Rc.spare, Rc.wants, hk, key_iff, none_iff, e1, Nat.add_eq_zero_iff, and_assoc]
  try (constructor <;> intro h <;> simp_all)
theorem oniff9 (x : MD) (hk : x.kind = 9) : (only9 x).m = x.m ↔ Rc.spare x.m = false := by
  have e1 : ∀ a : Int, (0 = a) ↔ (a = 0) := fun a => eq_comm
  simp [only9, MD.m, MD.k0, Rc.spare, Rc.wants, hk, key_iff, none_iff, e1, Nat.add_eq_zero_iff, and_assoc]
  try (constructor <;> intro h <;> simp_all)
theorem oniff10 (x : MD) (hk : x.kind = 10) : (only10 x).m = x.m ↔ Rc.spare x.m = false := by
  have e1 : ∀ a : Int, (0 = a) ↔ (a = 0) := fun a => eq_comm
  simp [only10, MD.m, MD.k0, Rc.spare, Rc.wants, hk, key_iff, none_iff, e1, Nat.add_eq_zero_iff, and_assoc]
  try (constructor <;> intro h <;> simp_all)
theorem check_nil {m : M} (h1 : m.rows = []) (h2 : m.dirty = []) (h3 : m.deeds = []) (h4 : m.past = []) : Rc.check m = true := by
  unfold Rc.check
  rw [h1, h2, h3, h4]
  rfl
/-- whether a record may be, as the document's May goes through it -/
theorem may_ref (m : M) (hk : Rc.kindOk m.kind = true) (hsp : Rc.spare m = false) (h78 : m.kind = 7 ∨ m.kind = 8 → m.tx = 0) :
    Rc.may m = (if m.kind = 7 then true else if m.kind = 8 then Rc.check m else if m.kind = 1 ∨ m.kind = 2 then Rc.seq m.tx 1 && Rc.seq m.prev 0 && Rc.seq m.nxt 0 && Rc.keyOk m.key && Rc.valOk m.old && Rc.valOk m.new else Rc.seq m.tx 1 && Rc.seq m.prev 0 && Rc.seq m.nxt 0 && Rc.node m.coord && Rc.members m.mem && Rc.locks m.locks) := by
  unfold Rc.may
  rw [hk, hsp]
  rcases kind_cases hk with e | e | e | e | e | e | e | e | e | e
  · obtain ⟨_, _, _, _, _, hc, hm, hl, _⟩ := spare_parts hsp
    rw [e] at hc hm hl
    have e1 : Rc.rest m = (Rc.seq m.tx 1 && Rc.seq m.prev 0 && Rc.seq m.nxt 0) := by
      unfold Rc.rest
      rw [hc rfl, hm rfl, hl rfl]
      simp [show Rc.node 0 = true from rfl, show Rc.members [] = true from rfl, show Rc.locks [] = true from rfl]
    rw [e1]
    simp [e, Bool.and_assoc, Bool.and_comm, Bool.and_left_comm]
  · obtain ⟨_, _, _, _, _, hc, hm, hl, _⟩ := spare_parts hsp
    rw [e] at hc hm hl
    have e1 : Rc.rest m = (Rc.seq m.tx 1 && Rc.seq m.prev 0 && Rc.seq m.nxt 0) := by
      unfold Rc.rest
      rw [hc rfl, hm rfl, hl rfl]
      simp [show Rc.node 0 = true from rfl, show Rc.members [] = true from rfl, show Rc.locks [] = true from rfl]
    rw [e1]
    simp [e, Bool.and_assoc, Bool.and_comm, Bool.and_left_comm]
  · simp [e, Rc.rest]
  · simp [e, Rc.rest]
  · simp [e, Rc.rest]
  · simp [e, Rc.rest]
  · obtain ⟨_, _, _, _, _, _, _, _, hl⟩ := spare_parts hsp
    rw [e] at hl
    obtain ⟨a, b, c, d⟩ := hl rfl
    simp [e, h78 (.inl e), check_nil a b c d]
  · simp [e, h78 (.inr e)]
  · simp [e, Rc.rest]
  · simp [e, Rc.rest]
theorem kind_no (x : MD) (h : Rc.kindOk x.kind = false) (w : World) : Calls Try.prog 14 #[mVal x] w fun e w' => e = .returned (.bool false) ∧ Below w.heap.size w w' := by
  obtain ⟨W, hW⟩ : ∃ W, w.alloc (.cells (mCells x) 30) = W := ⟨_, rfl⟩
  have hb : Below w.heap.size w W := by rw [← hW]; exact (Below.refl _ _).alloc (Nat.le_refl _) _
  have hx : Blk W w.heap.size 30 (mCells x) := by rw [← hW]; exact Blk.new _ _ _
  have c0 : W.cell? ⟨w.heap.size, 0, none⟩ = some (.int .i64 x.kind) := hx.cell 0
  have hways : decide (x.kind < 1) = true ∨ (decide (x.kind < 1) = false ∧ decide (10 < x.kind) = true) := by
    unfold Rc.kindOk at h
    simp only [Bool.and_eq_false_iff, decide_eq_false_iff_not, decide_eq_true_eq] at h ⊢
    omega
  have H := Lib.hid hb
  clear hb hx h
  rcases hways with k1 | ⟨k1, k2⟩
  · go_enter Try.func14, Try.ntmps14
    go_wp2_with fail
    refine wp_region_held_drew (S := (fun W => W.cell? ⟨w.heap.size, 0, none⟩ = some (.int .i64 x.kind))) (by kernel_rfl) (show W.drew.cell? _ = _ from c0) (fun hHeld => ?_)
    refine tk 0 3 (h := ?_)
    refine tk 1 4 (h := ?_)
    refine tk 2 5 (h := ?_)
    refine tk 3 6 (h := ?_)
    refine sk 4 7 (h := ?_)
    refine sk 5 8 (h := ?_)
    refine sk 6 9 (h := ?_)
    refine tk 7 10 (h := ?_)
    refine tk 8 11 (h := ?_)
    refine sk 9 12 (h := ?_)
    refine sk 10 13 (h := ?_)
    refine sk 11 14 (h := ?_)
    refine sk 12 15 (h := ?_)
    refine sk 13 16 (h := ?_)
    refine tk 14 17 (h := ?_)
    refine wpAnyH_done (by kernel_rfl) ?_ _
    go_wp2
    go_ret
    exact ⟨rfl, H.out.drew⟩
  · go_enter Try.func14, Try.ntmps14
    go_wp2_with fail
    refine wp_region_held_drew (S := (fun W => W.cell? ⟨w.heap.size, 0, none⟩ = some (.int .i64 x.kind))) (by kernel_rfl) (show W.drew.cell? _ = _ from c0) (fun hHeld => ?_)
    refine tk 0 3 (h := ?_)
    refine tk 1 4 (h := ?_)
    refine tk 2 5 (h := ?_)
    refine tk 3 6 (h := ?_)
    refine tk 4 7 (h := ?_)
    refine tk 5 8 (h := ?_)
    refine tk 6 9 (h := ?_)
    refine tk 7 10 (h := ?_)
    refine tk 8 11 (h := ?_)
    refine sk 9 12 (h := ?_)
    refine sk 10 13 (h := ?_)
    refine sk 11 14 (h := ?_)
    refine sk 12 15 (h := ?_)
    refine sk 13 16 (h := ?_)
    refine tk 14 17 (h := ?_)
    refine wpAnyH_done (by kernel_rfl) ?_ _
    go_wp2
    go_ret
    exact ⟨rfl, H.out.drew⟩
set_option maxHeartbeats 4000000 in
theorem fmay_any (x : MD) (w : World) (hok : MOk w x) (hs : Small x) : Calls Try.prog 14 #[mVal x] w fun e w' => e = .returned (.bool (Rc.may x.m)) ∧ Below w.heap.size w w' := by
  cases hk : Rc.kindOk x.kind with
  | false =>
    rw [show Rc.may x.m = false by unfold Rc.may; rw [show Rc.kindOk x.m.kind = false from hk]; simp]
    exact kind_no x hk w
  | true =>
    have hkd := hk
    unfold Rc.kindOk at hkd
    simp only [Bool.and_eq_true, decide_eq_true_eq] at hkd
    have k1 : decide (x.kind < 1) = false := decide_eq_false (by omega)
    have k2 : decide (10 < x.kind) = false := decide_eq_false (by omega)
    have key : ∀ (y : MD), Zer x y → (∀ W, Calls Try.prog 36 #[mVal x] W fun e w' => e = .returned (mVal y) ∧ Below W.heap.size W w') → (∀ W, MOk W x → MOk W y) → (y.m = x.m ↔ (Rc.spare x.m = false ∧ (x.kind = 7 ∨ x.kind = 8 → x.tx = 0))) →
        Calls Try.prog 14 #[mVal x] w fun e w' => e = .returned (.bool (Rc.may x.m)) ∧ Below w.heap.size w w' := by
      intro y z hon hoy hiff
      obtain ⟨b, hbi, hsm⟩ := same_zero x y z hs
      have hsm' : ∀ W, Below w.heap.size w W → Calls Try.prog 19 #[mVal x, mVal y] W fun e w' => e = .returned (.bool b) ∧ Below W.heap.size W w' := fun W hb => hsm W (hok.below hb) (hoy W (hok.below hb))
      cases b with
      | false =>
        have hno : ¬ (Rc.spare x.m = false ∧ (x.kind = 7 ∨ x.kind = 8 → x.tx = 0)) := fun h => by have := hbi.2 (hiff.2 h); cases this
        rw [show Rc.may x.m = false by
          unfold Rc.may
          cases hsp : Rc.spare x.m with
          | true => simp
          | false =>
            have h78 : ¬ (x.kind = 7 ∨ x.kind = 8 → x.tx = 0) := fun h => hno ⟨hsp, h⟩
            have h1 : x.m.kind = 7 ∨ x.m.kind = 8 := Classical.byContradiction (fun h => h78 (fun h2 => absurd h2 h))
            have h2 : ¬ x.m.tx = 0 := fun h => h78 (fun _ => h)
            rw [if_pos h1, decide_eq_false h2]
            simp]
        exact fmay_F x y w hok hs hon hsm' k1 k2
      | true =>
        obtain ⟨hsp, h78⟩ := hiff.1 (hbi.1 rfl)
        rw [may_ref x.m hk hsp h78]
        by_cases e7 : x.kind = 7
        · rw [if_pos (show x.m.kind = 7 from e7)]
          exact fmay_7 x y w hok hs hon hsm' k1 k2 (by rw [e7]; rfl)
        rw [if_neg (show ¬ x.m.kind = 7 from e7)]
        have h7 : (x.kind == 7) = false := by rw [beq_eq_false_iff_ne]; exact e7
        by_cases e8 : x.kind = 8
        · rw [if_pos (show x.m.kind = 8 from e8)]
          exact fmay_8 x y w hok hs hon hsm' k1 k2 h7 (by rw [e8]; rfl)
        rw [if_neg (show ¬ x.m.kind = 8 from e8)]
        have h8 : (x.kind == 8) = false := by rw [beq_eq_false_iff_ne]; exact e8
        by_cases e12 : x.kind = 1 ∨ x.kind = 2
        · rw [if_pos (show x.m.kind = 1 ∨ x.m.kind = 2 from e12)]
          refine fmay_U x y w hok hs hon hsm' k1 k2 h7 h8 ?_
          rcases e12 with e | e
          · exact .inl (by rw [e]; rfl)
          · exact .inr ⟨by rw [e]; rfl, by rw [e]; rfl⟩
        rw [if_neg (show ¬ (x.m.kind = 1 ∨ x.m.kind = 2) from e12)]
        exact fmay_R x y w hok hs hon hsm' k1 k2 h7 h8 (by rw [beq_eq_false_iff_ne]; exact fun e => e12 (.inl e)) (by rw [beq_eq_false_iff_ne]; exact fun e => e12 (.inr e))
    rcases kind_cases hk with e | e | e | e | e | e | e | e | e | e
    · exact key (only1 x) (zer1 x e) (fun W => fonly1 x W e) (fun W h => onok1 x W h) ((oniff1 x e).trans ⟨fun h => ⟨h, fun h2 => by omega⟩, fun h => h.1⟩)
    · exact key (only2 x) (zer2 x e) (fun W => fonly2 x W e) (fun W h => onok2 x W h) ((oniff2 x e).trans ⟨fun h => ⟨h, fun h2 => by omega⟩, fun h => h.1⟩)
    · exact key (only3 x) (zer3 x e) (fun W => fonly3 x W e) (fun W h => onok3 x W h) ((oniff3 x e).trans ⟨fun h => ⟨h, fun h2 => by omega⟩, fun h => h.1⟩)
    · exact key (only4 x) (zer4 x e) (fun W => fonly4 x W e) (fun W h => onok4 x W h) ((oniff4 x e).trans ⟨fun h => ⟨h, fun h2 => by omega⟩, fun h => h.1⟩)
    · exact key (only5 x) (zer5 x e) (fun W => fonly5 x W e) (fun W h => onok5 x W h) ((oniff5 x e).trans ⟨fun h => ⟨h, fun h2 => by omega⟩, fun h => h.1⟩)
    · exact key (only6 x) (zer6 x e) (fun W => fonly6 x W e) (fun W h => onok6 x W h) ((oniff6 x e).trans ⟨fun h => ⟨h, fun h2 => by omega⟩, fun h => h.1⟩)
    · exact key (only7 x) (zer7 x e) (fun W => fonly7 x W e) (fun W h => onok7 x W h) ((oniff7 x e).trans ⟨fun h => ⟨h.1, fun _ => h.2⟩, fun h => ⟨h.1, h.2 (.inl e)⟩⟩)
    · exact key (only8 x) (zer8 x e) (fun W => fonly8 x W e) (fun W h => onok8 x W h) ((oniff8 x e).trans ⟨fun h => ⟨h.1, fun _ => h.2⟩, fun h => ⟨h.1, h.2 (.inr e)⟩⟩)
    · exact key (only9 x) (zer9 x e) (fun W => fonly9 x W e) (fun W h => onok9 x W h) ((oniff9 x e).trans ⟨fun h => ⟨h, fun h2 => by omega⟩, fun h => h.1⟩)
    · exact key (only10 x) (zer10 x e) (fun W => fonly10 x W e) (fun W h => onok10 x W h) ((oniff10 x e).trans ⟨fun h => ⟨h, fun h2 => by omega⟩, fun h => h.1⟩)
end Go.Proofs.Ytlijfnekopjogaa
