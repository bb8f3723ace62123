/- The document's records: which may be (printed by gen_mayf.py). -/
import Derived.Test.YtlijfnekopjogaaRecOnly
import Derived.Test.YtlijfnekopjogaaRecRefD
import Derived.Test.YtlijfnekopjogaaRecAwake
namespace Go.Proofs.Ytlijfnekopjogaa
open Go Go.RowKit Mem Rc
set_option maxRecDepth 100000
set_option linter.unusedVariables false
set_option linter.unusedSimpArgs false

theorem exec_load_rec {a : Act} {oi : Oper} {W : World} {b : Nat} {x : MD} (p : Operand) (ho : oi.op = .load 30 p) (hx : a.eval p = .pointer (some ⟨b, 0, none⟩)) (hc : Blk W b 30 (mCells x)) :
    (execOp (Act.eval a) oi).run Try.prog W = .ok (.value (mVal x)) W := by
  unfold execOp
  simp only [ho, hx, Sem.run_bind, rec_load hc, Result.andThen_ok, Sem.run_pure]
/-- what the document's May is walked with -/
structure MyH (x y : MD) (b : Bool) (w W : World) : Prop where
  hb : Below w.heap.size w W
  hx : Blk W w.heap.size 30 (mCells x)
  ok : MOk W x
  sm : Small x
  on : ∀ W, Calls Try.prog 36 #[mVal x] W fun e w' => e = .returned (mVal y) ∧ Below W.heap.size W w'
  same : ∀ W, Below w.heap.size w W → Calls Try.prog 19 #[mVal x, mVal y] W fun e w' => e = .returned (.bool b) ∧ Below W.heap.size W w'
set_option maxHeartbeats 8000000 in
theorem fmay_F (x y : MD) (w : World) (hok : MOk w x) (hs : Small x) (hon : ∀ W, Calls Try.prog 36 #[mVal x] W fun e w' => e = .returned (mVal y) ∧ Below W.heap.size W w') (hsm : ∀ W, Below w.heap.size w W → Calls Try.prog 19 #[mVal x, mVal y] W fun e w' => e = .returned (.bool false) ∧ Below W.heap.size W w') (k1 : decide (x.kind < 1) = false) (k2 : decide (10 < x.kind) = false) :
    Calls Try.prog 14 #[mVal x] w fun e w' => e = .returned (.bool false) ∧ Below w.heap.size w w' := by
  obtain ⟨W, hW⟩ : ∃ W, w.alloc (.cells (mCells x) 30) = W := ⟨_, rfl⟩
  have hb : Below w.heap.size w W := by rw [← hW]; exact (Below.refl _ _).alloc (Nat.le_refl _) _
  have hx : Blk W w.heap.size 30 (mCells x) := by rw [← hW]; exact Blk.new _ _ _
  have c0 : W.cell? ⟨w.heap.size, 0, none⟩ = some (.int .i64 x.kind) := hx.cell 0
  have H := Lib.hid (MyH.mk hb hx (hok.below hb) hs hon hsm)
  clear hb hx hok hs hon hsm
  go_enter Try.func14, Try.ntmps14
  go_wp2_with fail
  refine wp_region_held_drew (S := (fun W => W.cell? ⟨w.heap.size, 0, none⟩ = some (.int .i64 x.kind) ∧ Blk W w.heap.size 30 (mCells x))) (by kernel_rfl) ⟨(show W.drew.cell? _ = _ from c0), H.out.hx.below (Below.refl _ _).drew H.out.hx.lt⟩ (fun hHeld => ?_)
  refine tk 0 3 (h := ?_)
  refine tk 1 4 (h := ?_)
  refine tk 2 5 (h := ?_)
  refine tk 3 6 (h := ?_)
  refine tk 4 7 (h := ?_)
  refine tk 5 8 (h := ?_)
  refine tk 6 9 (h := ?_)
  refine tk 7 10 (h := ?_)
  refine tk 8 11 (h := ?_)
  refine tk 9 12 (hi := rfl) (v := mVal x) (hy := fun W hW => exec_load_rec (x := x) (.tmp 1) rfl (by rfl) hW.2) (h := ?_)
  refine tk 10 13 (hi := rfl) (v := mVal x) (hy := fun W hW => exec_load_rec (x := x) (.tmp 1) rfl (by rfl) hW.2) (h := ?_)
  refine wpAnyH_ready (rs := [11]) (by kernel_rfl) (by simp) ?_
  refine AllReadyH.cons rfl (fun K hK => ?_) AllReadyH.nil
  go_simp
  refine (H.out.on _).mono ?_
  rintro e w8 ⟨rfl, hb8⟩
  have HW8 := Lib.hid (H.out.hb.drew.trans (hb8.mono H.out.hb.drew.size))
  have HV8 := Lib.hid ((Below.refl W.heap.size W).drew.trans (hb8.mono (Nat.le_refl _)))
  have HS8 := And.intro (cell_below hb8 hHeld.1) (hHeld.2.below hb8 hHeld.2.lt)
  clear hb8
  refine hK.out _ _ HS8 (fun hHeld => ?_)
  clear hK K
  try simp only [Act.put, List.setIfInBounds_toArray, List.set_cons_zero, List.set_cons_succ]
  refine wpAnyH_ready (rs := [12]) (by kernel_rfl) (by simp) ?_
  refine AllReadyH.cons rfl (fun K hK => ?_) AllReadyH.nil
  go_simp
  refine (H.out.same _ HW8.out).mono ?_
  rintro e w9 ⟨rfl, hb9⟩
  have HW9 := Lib.hid (HW8.out.trans (hb9.mono HW8.out.size))
  have HV9 := Lib.hid (HV8.out.trans (hb9.mono HV8.out.size))
  have HS9 := And.intro (cell_below hb9 HS8.1) (HS8.2.below hb9 HS8.2.lt)
  clear hb9 HS8
  refine hK.out _ _ HS9 (fun hHeld => ?_)
  clear hK K
  try simp only [Act.put, List.setIfInBounds_toArray, List.set_cons_zero, List.set_cons_succ]
  refine tk 13 16 (h := ?_)
  refine tk 14 17 (h := ?_)
  refine wpAnyH_done (by kernel_rfl) ?_ _
  clear c0
  go_wp2
  go_ret
  exact ⟨rfl, HW9.out⟩
set_option maxHeartbeats 8000000 in
theorem fmay_7 (x y : MD) (w : World) (hok : MOk w x) (hs : Small x) (hon : ∀ W, Calls Try.prog 36 #[mVal x] W fun e w' => e = .returned (mVal y) ∧ Below W.heap.size W w') (hsm : ∀ W, Below w.heap.size w W → Calls Try.prog 19 #[mVal x, mVal y] W fun e w' => e = .returned (.bool true) ∧ Below W.heap.size W w') (k1 : decide (x.kind < 1) = false) (k2 : decide (10 < x.kind) = false) (k7 : (x.kind == 7) = true) :
    Calls Try.prog 14 #[mVal x] w fun e w' => e = .returned (.bool true) ∧ Below w.heap.size w w' := by
  obtain ⟨W, hW⟩ : ∃ W, w.alloc (.cells (mCells x) 30) = W := ⟨_, rfl⟩
  have hb : Below w.heap.size w W := by rw [← hW]; exact (Below.refl _ _).alloc (Nat.le_refl _) _
  have hx : Blk W w.heap.size 30 (mCells x) := by rw [← hW]; exact Blk.new _ _ _
  have c0 : W.cell? ⟨w.heap.size, 0, none⟩ = some (.int .i64 x.kind) := hx.cell 0
  have H := Lib.hid (MyH.mk hb hx (hok.below hb) hs hon hsm)
  clear hb hx hok hs hon hsm
  go_enter Try.func14, Try.ntmps14
  go_wp2_with fail
  refine wp_region_held_drew (S := (fun W => W.cell? ⟨w.heap.size, 0, none⟩ = some (.int .i64 x.kind) ∧ Blk W w.heap.size 30 (mCells x))) (by kernel_rfl) ⟨(show W.drew.cell? _ = _ from c0), H.out.hx.below (Below.refl _ _).drew H.out.hx.lt⟩ (fun hHeld => ?_)
  refine tk 0 3 (h := ?_)
  refine tk 1 4 (h := ?_)
  refine tk 2 5 (h := ?_)
  refine tk 3 6 (h := ?_)
  refine tk 4 7 (h := ?_)
  refine tk 5 8 (h := ?_)
  refine tk 6 9 (h := ?_)
  refine tk 7 10 (h := ?_)
  refine tk 8 11 (h := ?_)
  refine tk 9 12 (hi := rfl) (v := mVal x) (hy := fun W hW => exec_load_rec (x := x) (.tmp 1) rfl (by rfl) hW.2) (h := ?_)
  refine tk 10 13 (hi := rfl) (v := mVal x) (hy := fun W hW => exec_load_rec (x := x) (.tmp 1) rfl (by rfl) hW.2) (h := ?_)
  refine wpAnyH_ready (rs := [11]) (by kernel_rfl) (by simp) ?_
  refine AllReadyH.cons rfl (fun K hK => ?_) AllReadyH.nil
  go_simp
  refine (H.out.on _).mono ?_
  rintro e w8 ⟨rfl, hb8⟩
  have HW8 := Lib.hid (H.out.hb.drew.trans (hb8.mono H.out.hb.drew.size))
  have HV8 := Lib.hid ((Below.refl W.heap.size W).drew.trans (hb8.mono (Nat.le_refl _)))
  have HS8 := And.intro (cell_below hb8 hHeld.1) (hHeld.2.below hb8 hHeld.2.lt)
  clear hb8
  refine hK.out _ _ HS8 (fun hHeld => ?_)
  clear hK K
  try simp only [Act.put, List.setIfInBounds_toArray, List.set_cons_zero, List.set_cons_succ]
  refine wpAnyH_ready (rs := [12]) (by kernel_rfl) (by simp) ?_
  refine AllReadyH.cons rfl (fun K hK => ?_) AllReadyH.nil
  go_simp
  refine (H.out.same _ HW8.out).mono ?_
  rintro e w9 ⟨rfl, hb9⟩
  have HW9 := Lib.hid (HW8.out.trans (hb9.mono HW8.out.size))
  have HV9 := Lib.hid (HV8.out.trans (hb9.mono HV8.out.size))
  have HS9 := And.intro (cell_below hb9 HS8.1) (HS8.2.below hb9 HS8.2.lt)
  clear hb9 HS8
  refine hK.out _ _ HS9 (fun hHeld => ?_)
  clear hK K
  try simp only [Act.put, List.setIfInBounds_toArray, List.set_cons_zero, List.set_cons_succ]
  refine tk 13 16 (h := ?_)
  refine tk 14 17 (h := ?_)
  refine wpAnyH_done (by kernel_rfl) ?_ _
  clear c0
  have c0 := HS9.1
  clear HS9
  go_wp2
  go_ret
  exact ⟨rfl, HW9.out⟩
set_option maxHeartbeats 8000000 in
theorem fmay_8 (x y : MD) (w : World) (hok : MOk w x) (hs : Small x) (hon : ∀ W, Calls Try.prog 36 #[mVal x] W fun e w' => e = .returned (mVal y) ∧ Below W.heap.size W w') (hsm : ∀ W, Below w.heap.size w W → Calls Try.prog 19 #[mVal x, mVal y] W fun e w' => e = .returned (.bool true) ∧ Below W.heap.size W w') (k1 : decide (x.kind < 1) = false) (k2 : decide (10 < x.kind) = false) (k7 : (x.kind == 7) = false) (k8 : (x.kind == 8) = true) :
    Calls Try.prog 14 #[mVal x] w fun e w' => e = .returned (.bool (Rc.check x.m)) ∧ Below w.heap.size w w' := by
  obtain ⟨W, hW⟩ : ∃ W, w.alloc (.cells (mCells x) 30) = W := ⟨_, rfl⟩
  have hb : Below w.heap.size w W := by rw [← hW]; exact (Below.refl _ _).alloc (Nat.le_refl _) _
  have hx : Blk W w.heap.size 30 (mCells x) := by rw [← hW]; exact Blk.new _ _ _
  have c0 : W.cell? ⟨w.heap.size, 0, none⟩ = some (.int .i64 x.kind) := hx.cell 0
  have H := Lib.hid (MyH.mk hb hx (hok.below hb) hs hon hsm)
  clear hb hx hok hs hon hsm
  go_enter Try.func14, Try.ntmps14
  go_wp2_with fail
  refine wp_region_held_drew (S := (fun W => W.cell? ⟨w.heap.size, 0, none⟩ = some (.int .i64 x.kind) ∧ Blk W w.heap.size 30 (mCells x))) (by kernel_rfl) ⟨(show W.drew.cell? _ = _ from c0), H.out.hx.below (Below.refl _ _).drew H.out.hx.lt⟩ (fun hHeld => ?_)
  refine tk 0 3 (h := ?_)
  refine tk 1 4 (h := ?_)
  refine tk 2 5 (h := ?_)
  refine tk 3 6 (h := ?_)
  refine tk 4 7 (h := ?_)
  refine tk 5 8 (h := ?_)
  refine tk 6 9 (h := ?_)
  refine tk 7 10 (h := ?_)
  refine tk 8 11 (h := ?_)
  refine tk 9 12 (hi := rfl) (v := mVal x) (hy := fun W hW => exec_load_rec (x := x) (.tmp 1) rfl (by rfl) hW.2) (h := ?_)
  refine tk 10 13 (hi := rfl) (v := mVal x) (hy := fun W hW => exec_load_rec (x := x) (.tmp 1) rfl (by rfl) hW.2) (h := ?_)
  refine wpAnyH_ready (rs := [11]) (by kernel_rfl) (by simp) ?_
  refine AllReadyH.cons rfl (fun K hK => ?_) AllReadyH.nil
  go_simp
  refine (H.out.on _).mono ?_
  rintro e w8 ⟨rfl, hb8⟩
  have HW8 := Lib.hid (H.out.hb.drew.trans (hb8.mono H.out.hb.drew.size))
  have HV8 := Lib.hid ((Below.refl W.heap.size W).drew.trans (hb8.mono (Nat.le_refl _)))
  have HS8 := And.intro (cell_below hb8 hHeld.1) (hHeld.2.below hb8 hHeld.2.lt)
  clear hb8
  refine hK.out _ _ HS8 (fun hHeld => ?_)
  clear hK K
  try simp only [Act.put, List.setIfInBounds_toArray, List.set_cons_zero, List.set_cons_succ]
  refine wpAnyH_ready (rs := [12]) (by kernel_rfl) (by simp) ?_
  refine AllReadyH.cons rfl (fun K hK => ?_) AllReadyH.nil
  go_simp
  refine (H.out.same _ HW8.out).mono ?_
  rintro e w9 ⟨rfl, hb9⟩
  have HW9 := Lib.hid (HW8.out.trans (hb9.mono HW8.out.size))
  have HV9 := Lib.hid (HV8.out.trans (hb9.mono HV8.out.size))
  have HS9 := And.intro (cell_below hb9 HS8.1) (HS8.2.below hb9 HS8.2.lt)
  clear hb9 HS8
  refine hK.out _ _ HS9 (fun hHeld => ?_)
  clear hK K
  try simp only [Act.put, List.setIfInBounds_toArray, List.set_cons_zero, List.set_cons_succ]
  refine tk 13 16 (h := ?_)
  refine tk 14 17 (h := ?_)
  refine wpAnyH_done (by kernel_rfl) ?_ _
  clear c0
  have c0 := HS9.1
  have hbx := HS9.2
  clear HS9
  go_wp2_with (refine wpList_load_rec' _ (by rfl) (by rfl) (by rfl) hbx ?_)
  refine (fcheck_any x _ (H.out.ok.below (HV9.out)) H.out.sm).mono ?_
  rintro e w3 ⟨rfl, hb3⟩
  have H3 := Lib.hid (HW9.out.trans (hb3.mono HW9.out.size))
  clear hb3 hbx c0
  go_wp2
  go_ret
  exact ⟨rfl, H3.out⟩
set_option maxHeartbeats 8000000 in
theorem fmay_U (x y : MD) (w : World) (hok : MOk w x) (hs : Small x) (hon : ∀ W, Calls Try.prog 36 #[mVal x] W fun e w' => e = .returned (mVal y) ∧ Below W.heap.size W w') (hsm : ∀ W, Below w.heap.size w W → Calls Try.prog 19 #[mVal x, mVal y] W fun e w' => e = .returned (.bool true) ∧ Below W.heap.size W w') (k1 : decide (x.kind < 1) = false) (k2 : decide (10 < x.kind) = false) (k7 : (x.kind == 7) = false) (k8 : (x.kind == 8) = false) (k12 : (x.kind == 1) = true ∨ ((x.kind == 1) = false ∧ (x.kind == 2) = true)) :
    Calls Try.prog 14 #[mVal x] w fun e w' => e = .returned (.bool (Rc.seq x.tx 1 && Rc.seq x.prev 0 && Rc.seq x.nxt 0 && Rc.keyOk x.key && Rc.valOk x.old && Rc.valOk x.new)) ∧ Below w.heap.size w w' := by
  obtain ⟨W, hW⟩ : ∃ W, w.alloc (.cells (mCells x) 30) = W := ⟨_, rfl⟩
  have hb : Below w.heap.size w W := by rw [← hW]; exact (Below.refl _ _).alloc (Nat.le_refl _) _
  have hx : Blk W w.heap.size 30 (mCells x) := by rw [← hW]; exact Blk.new _ _ _
  have c0 : W.cell? ⟨w.heap.size, 0, none⟩ = some (.int .i64 x.kind) := hx.cell 0
  have H := Lib.hid (MyH.mk hb hx (hok.below hb) hs hon hsm)
  clear hb hx hok hs hon hsm
  go_enter Try.func14, Try.ntmps14
  go_wp2_with fail
  refine wp_region_held_drew (S := (fun W => W.cell? ⟨w.heap.size, 0, none⟩ = some (.int .i64 x.kind) ∧ Blk W w.heap.size 30 (mCells x))) (by kernel_rfl) ⟨(show W.drew.cell? _ = _ from c0), H.out.hx.below (Below.refl _ _).drew H.out.hx.lt⟩ (fun hHeld => ?_)
  refine tk 0 3 (h := ?_)
  refine tk 1 4 (h := ?_)
  refine tk 2 5 (h := ?_)
  refine tk 3 6 (h := ?_)
  refine tk 4 7 (h := ?_)
  refine tk 5 8 (h := ?_)
  refine tk 6 9 (h := ?_)
  refine tk 7 10 (h := ?_)
  refine tk 8 11 (h := ?_)
  refine tk 9 12 (hi := rfl) (v := mVal x) (hy := fun W hW => exec_load_rec (x := x) (.tmp 1) rfl (by rfl) hW.2) (h := ?_)
  refine tk 10 13 (hi := rfl) (v := mVal x) (hy := fun W hW => exec_load_rec (x := x) (.tmp 1) rfl (by rfl) hW.2) (h := ?_)
  refine wpAnyH_ready (rs := [11]) (by kernel_rfl) (by simp) ?_
  refine AllReadyH.cons rfl (fun K hK => ?_) AllReadyH.nil
  go_simp
  refine (H.out.on _).mono ?_
  rintro e w8 ⟨rfl, hb8⟩
  have HW8 := Lib.hid (H.out.hb.drew.trans (hb8.mono H.out.hb.drew.size))
  have HV8 := Lib.hid ((Below.refl W.heap.size W).drew.trans (hb8.mono (Nat.le_refl _)))
  have HS8 := And.intro (cell_below hb8 hHeld.1) (hHeld.2.below hb8 hHeld.2.lt)
  clear hb8
  refine hK.out _ _ HS8 (fun hHeld => ?_)
  clear hK K
  try simp only [Act.put, List.setIfInBounds_toArray, List.set_cons_zero, List.set_cons_succ]
  refine wpAnyH_ready (rs := [12]) (by kernel_rfl) (by simp) ?_
  refine AllReadyH.cons rfl (fun K hK => ?_) AllReadyH.nil
  go_simp
  refine (H.out.same _ HW8.out).mono ?_
  rintro e w9 ⟨rfl, hb9⟩
  have HW9 := Lib.hid (HW8.out.trans (hb9.mono HW8.out.size))
  have HV9 := Lib.hid (HV8.out.trans (hb9.mono HV8.out.size))
  have HS9 := And.intro (cell_below hb9 HS8.1) (HS8.2.below hb9 HS8.2.lt)
  clear hb9 HS8
  refine hK.out _ _ HS9 (fun hHeld => ?_)
  clear hK K
  try simp only [Act.put, List.setIfInBounds_toArray, List.set_cons_zero, List.set_cons_succ]
  refine tk 13 16 (h := ?_)
  refine tk 14 17 (h := ?_)
  refine wpAnyH_done (by kernel_rfl) ?_ _
  clear c0
  have c0 := HS9.1
  have c1 : w9.cell? ⟨w.heap.size, 1, none⟩ = some (.int .i64 x.tx) := HS9.2.cell 1
  have c2 : w9.cell? ⟨w.heap.size, 2, none⟩ = some (.int .i64 x.prev) := HS9.2.cell 2
  have c3 : w9.cell? ⟨w.heap.size, 3, none⟩ = some (.int .i64 x.nxt) := HS9.2.cell 3
  have HB9 := Lib.hid HS9.2
  clear HS9
  go_wp2_with fail
  refine (fseq_any x.tx 1 _).mono ?_
  cases s1 : Rc.seq x.tx 1 with
  | false =>
    rintro e w2 ⟨rfl, hw2⟩
    obtain rfl : w9 = w2 := hw2.symm
    go_wp2
    go_ret
    exact ⟨by first | rfl | (simp only [s1, Bool.false_and, Bool.true_and, Bool.and_false]; rfl), HW9.out⟩
  | true =>
    rintro e w2 ⟨rfl, hw2⟩
    obtain rfl : w9 = w2 := hw2.symm
    go_wp2_with fail
    refine (fseq_any x.prev 0 _).mono ?_
    cases s2 : Rc.seq x.prev 0 with
    | false =>
      rintro e w2 ⟨rfl, hw2⟩
      obtain rfl : w9 = w2 := hw2.symm
      go_wp2
      go_ret
      exact ⟨by first | rfl | (simp only [s1, s2, Bool.false_and, Bool.true_and, Bool.and_false]; rfl), HW9.out⟩
    | true =>
      rintro e w2 ⟨rfl, hw2⟩
      obtain rfl : w9 = w2 := hw2.symm
      go_wp2_with fail
      refine (fseq_any x.nxt 0 _).mono ?_
      cases s3 : Rc.seq x.nxt 0 with
      | false =>
        rintro e w2 ⟨rfl, hw2⟩
        obtain rfl : w9 = w2 := hw2.symm
        go_wp2
        go_ret
        exact ⟨by first | rfl | (simp only [s1, s2, s3, Bool.false_and, Bool.true_and, Bool.and_false]; rfl), HW9.out⟩
      | true =>
        rintro e w2 ⟨rfl, hw2⟩
        obtain rfl : w9 = w2 := hw2.symm
        have c4 : w9.cell? ⟨w.heap.size, 4, none⟩ = some (.string x.key) := HB9.out.cell 4
        have c5 : w9.cell? ⟨w.heap.size, 5, none⟩ = some (.bool x.old.has) := HB9.out.cell 5
        have c6 : w9.cell? ⟨w.heap.size, 6, none⟩ = some (.string x.old.data) := HB9.out.cell 6
        have c7 : w9.cell? ⟨w.heap.size, 7, none⟩ = some (.bool x.new.has) := HB9.out.cell 7
        have c8 : w9.cell? ⟨w.heap.size, 8, none⟩ = some (.string x.new.data) := HB9.out.cell 8
        rcases k12 with k12 | ⟨k11, k12⟩
        all_goals
          go_wp2_with fail
          refine (fkey_any x.key _).mono ?_
          cases s4 : Rc.keyOk x.key with
          | false =>
            rintro e w2 ⟨rfl, hw2⟩
            obtain rfl : w9 = w2 := hw2.symm
            go_wp2
            go_ret
            exact ⟨by simp only [s1, s2, s3, Bool.false_and, Bool.true_and, Bool.and_false, Bool.and_true, s4]; rfl, HW9.out⟩
          | true =>
            rintro e w2 ⟨rfl, hw2⟩
            obtain rfl : w9 = w2 := hw2.symm
            go_wp2_with fail
            refine (fvalue_any x.old _).mono ?_
            cases s5 : Rc.valOk x.old with
            | false =>
              rintro e w2 ⟨rfl, hb2⟩
              have H2 := Lib.hid (HW9.out.trans (hb2.mono HW9.out.size))
              clear hb2
              go_wp2
              go_ret
              exact ⟨by simp only [s1, s2, s3, Bool.false_and, Bool.true_and, Bool.and_false, Bool.and_true, s4, s5]; rfl, H2.out⟩
            | true =>
              rintro e w2 ⟨rfl, hb2⟩
              have H2 := Lib.hid (HW9.out.trans (hb2.mono HW9.out.size))
              have e7 := cell_below hb2 c7
              have e8 := cell_below hb2 c8
              clear hb2 c0 c1 c2 c3 c4 c5 c6 c7 c8
              go_wp2_with fail
              refine (fvalue_any x.new _).mono ?_
              rintro e w3 ⟨rfl, hb3⟩
              have H3 := Lib.hid (H2.out.trans (hb3.mono H2.out.size))
              clear hb3
              go_wp2
              go_ret
              exact ⟨by simp only [s1, s2, s3, s4, s5, Bool.true_and]; rfl, H3.out⟩
set_option maxHeartbeats 8000000 in
theorem fmay_R (x y : MD) (w : World) (hok : MOk w x) (hs : Small x) (hon : ∀ W, Calls Try.prog 36 #[mVal x] W fun e w' => e = .returned (mVal y) ∧ Below W.heap.size W w') (hsm : ∀ W, Below w.heap.size w W → Calls Try.prog 19 #[mVal x, mVal y] W fun e w' => e = .returned (.bool true) ∧ Below W.heap.size W w') (k1 : decide (x.kind < 1) = false) (k2 : decide (10 < x.kind) = false) (k7 : (x.kind == 7) = false) (k8 : (x.kind == 8) = false) (k11 : (x.kind == 1) = false) (k12 : (x.kind == 2) = false) :
    Calls Try.prog 14 #[mVal x] w fun e w' => e = .returned (.bool (Rc.seq x.tx 1 && Rc.seq x.prev 0 && Rc.seq x.nxt 0 && Rc.node x.coord && Rc.members x.mem && Rc.locks x.locks)) ∧ Below w.heap.size w w' := by
  obtain ⟨W, hW⟩ : ∃ W, w.alloc (.cells (mCells x) 30) = W := ⟨_, rfl⟩
  have hb : Below w.heap.size w W := by rw [← hW]; exact (Below.refl _ _).alloc (Nat.le_refl _) _
  have hx : Blk W w.heap.size 30 (mCells x) := by rw [← hW]; exact Blk.new _ _ _
  have c0 : W.cell? ⟨w.heap.size, 0, none⟩ = some (.int .i64 x.kind) := hx.cell 0
  have H := Lib.hid (MyH.mk hb hx (hok.below hb) hs hon hsm)
  clear hb hx hok hs hon hsm
  go_enter Try.func14, Try.ntmps14
  go_wp2_with fail
  refine wp_region_held_drew (S := (fun W => W.cell? ⟨w.heap.size, 0, none⟩ = some (.int .i64 x.kind) ∧ Blk W w.heap.size 30 (mCells x))) (by kernel_rfl) ⟨(show W.drew.cell? _ = _ from c0), H.out.hx.below (Below.refl _ _).drew H.out.hx.lt⟩ (fun hHeld => ?_)
  refine tk 0 3 (h := ?_)
  refine tk 1 4 (h := ?_)
  refine tk 2 5 (h := ?_)
  refine tk 3 6 (h := ?_)
  refine tk 4 7 (h := ?_)
  refine tk 5 8 (h := ?_)
  refine tk 6 9 (h := ?_)
  refine tk 7 10 (h := ?_)
  refine tk 8 11 (h := ?_)
  refine tk 9 12 (hi := rfl) (v := mVal x) (hy := fun W hW => exec_load_rec (x := x) (.tmp 1) rfl (by rfl) hW.2) (h := ?_)
  refine tk 10 13 (hi := rfl) (v := mVal x) (hy := fun W hW => exec_load_rec (x := x) (.tmp 1) rfl (by rfl) hW.2) (h := ?_)
  refine wpAnyH_ready (rs := [11]) (by kernel_rfl) (by simp) ?_
  refine AllReadyH.cons rfl (fun K hK => ?_) AllReadyH.nil
  go_simp
  refine (H.out.on _).mono ?_
  rintro e w8 ⟨rfl, hb8⟩
  have HW8 := Lib.hid (H.out.hb.drew.trans (hb8.mono H.out.hb.drew.size))
  have HV8 := Lib.hid ((Below.refl W.heap.size W).drew.trans (hb8.mono (Nat.le_refl _)))
  have HS8 := And.intro (cell_below hb8 hHeld.1) (hHeld.2.below hb8 hHeld.2.lt)
  clear hb8
  refine hK.out _ _ HS8 (fun hHeld => ?_)
  clear hK K
  try simp only [Act.put, List.setIfInBounds_toArray, List.set_cons_zero, List.set_cons_succ]
  refine wpAnyH_ready (rs := [12]) (by kernel_rfl) (by simp) ?_
  refine AllReadyH.cons rfl (fun K hK => ?_) AllReadyH.nil
  go_simp
  refine (H.out.same _ HW8.out).mono ?_
  rintro e w9 ⟨rfl, hb9⟩
  have HW9 := Lib.hid (HW8.out.trans (hb9.mono HW8.out.size))
  have HV9 := Lib.hid (HV8.out.trans (hb9.mono HV8.out.size))
  have HS9 := And.intro (cell_below hb9 HS8.1) (HS8.2.below hb9 HS8.2.lt)
  clear hb9 HS8
  refine hK.out _ _ HS9 (fun hHeld => ?_)
  clear hK K
  try simp only [Act.put, List.setIfInBounds_toArray, List.set_cons_zero, List.set_cons_succ]
  refine tk 13 16 (h := ?_)
  refine tk 14 17 (h := ?_)
  refine wpAnyH_done (by kernel_rfl) ?_ _
  clear c0
  have c0 := HS9.1
  have c1 : w9.cell? ⟨w.heap.size, 1, none⟩ = some (.int .i64 x.tx) := HS9.2.cell 1
  have c2 : w9.cell? ⟨w.heap.size, 2, none⟩ = some (.int .i64 x.prev) := HS9.2.cell 2
  have c3 : w9.cell? ⟨w.heap.size, 3, none⟩ = some (.int .i64 x.nxt) := HS9.2.cell 3
  have HB9 := Lib.hid HS9.2
  clear HS9
  go_wp2_with fail
  refine (fseq_any x.tx 1 _).mono ?_
  cases s1 : Rc.seq x.tx 1 with
  | false =>
    rintro e w2 ⟨rfl, hw2⟩
    obtain rfl : w9 = w2 := hw2.symm
    go_wp2
    go_ret
    exact ⟨by first | rfl | (simp only [s1, Bool.false_and, Bool.true_and, Bool.and_false]; rfl), HW9.out⟩
  | true =>
    rintro e w2 ⟨rfl, hw2⟩
    obtain rfl : w9 = w2 := hw2.symm
    go_wp2_with fail
    refine (fseq_any x.prev 0 _).mono ?_
    cases s2 : Rc.seq x.prev 0 with
    | false =>
      rintro e w2 ⟨rfl, hw2⟩
      obtain rfl : w9 = w2 := hw2.symm
      go_wp2
      go_ret
      exact ⟨by first | rfl | (simp only [s1, s2, Bool.false_and, Bool.true_and, Bool.and_false]; rfl), HW9.out⟩
    | true =>
      rintro e w2 ⟨rfl, hw2⟩
      obtain rfl : w9 = w2 := hw2.symm
      go_wp2_with fail
      refine (fseq_any x.nxt 0 _).mono ?_
      cases s3 : Rc.seq x.nxt 0 with
      | false =>
        rintro e w2 ⟨rfl, hw2⟩
        obtain rfl : w9 = w2 := hw2.symm
        go_wp2
        go_ret
        exact ⟨by first | rfl | (simp only [s1, s2, s3, Bool.false_and, Bool.true_and, Bool.and_false]; rfl), HW9.out⟩
      | true =>
        rintro e w2 ⟨rfl, hw2⟩
        obtain rfl : w9 = w2 := hw2.symm
        have c9 : w9.cell? ⟨w.heap.size, 9, none⟩ = some (.int .i64 x.coord) := HB9.out.cell 9
        obtain ⟨nm, hnm⟩ : ∃ nm, x.mem.length = nm := ⟨_, rfl⟩
        obtain ⟨nl, hnl⟩ : ∃ nl, x.locks.length = nl := ⟨_, rfl⟩
        have c10 : w9.cell? ⟨w.heap.size, 10, none⟩ = some (.slice x.mA nm x.mc) := (HB9.out.cell 10).trans (by rw [← hnm]; rfl)
        have c11 : w9.cell? ⟨w.heap.size, 11, none⟩ = some (.slice x.lA nl x.lc) := (HB9.out.cell 11).trans (by rw [← hnl]; rfl)
        have HN := Lib.hid (And.intro hnm hnl)
        clear hnm hnl
        have hnode : Rc.node x.coord = (decide (0 ≤ x.coord) && decide (x.coord ≤ 7)) := by simp only [Rc.node]; (first | rfl | (congr 1; exact decide_eq_decide.2 (by omega)))
        have HND := Lib.hid hnode
        clear hnode
        cases s4 : decide (0 ≤ x.coord) with
        | false =>
          go_wp2
          go_ret
          exact ⟨by rw [HND.out]; simp only [s1, s2, s3, Bool.false_and, Bool.true_and, Bool.and_false, Bool.and_true, s4]; rfl, HW9.out⟩
        | true =>
          cases s5 : decide (x.coord ≤ 7) with
          | false =>
            go_wp2
            go_ret
            exact ⟨by rw [HND.out]; simp only [s1, s2, s3, Bool.false_and, Bool.true_and, Bool.and_false, Bool.and_true, s4, s5]; rfl, HW9.out⟩
          | true =>
            go_wp2_with fail
            refine (fmembers_any x.mA nm x.mc x.mem _ (by have g := (H.out.ok.below HV9.out).mem; rw [HN.out.1] at g; exact g) (by rw [← HN.out.1]; exact H.out.sm.mem)).mono ?_
            cases s6 : Rc.members x.mem with
            | false =>
              rintro e w2 ⟨rfl, hb2⟩
              have H2 := Lib.hid (HW9.out.trans (hb2.mono HW9.out.size))
              clear hb2
              go_wp2
              go_ret
              exact ⟨by rw [HND.out]; simp only [s1, s2, s3, Bool.false_and, Bool.true_and, Bool.and_false, Bool.and_true, s4, s5, s6]; rfl, H2.out⟩
            | true =>
              rintro e w2 ⟨rfl, hb2⟩
              have H2 := Lib.hid (And.intro (HW9.out.trans (hb2.mono HW9.out.size)) (HV9.out.trans (hb2.mono HV9.out.size)))
              have e11 := cell_below hb2 c11
              clear hb2 c0 c1 c2 c3 c9 c10 c11
              go_wp2_with fail
              refine (flocks_any x.lA nl x.lc x.locks _ (by have g := (H.out.ok.below H2.out.2).locks; rw [HN.out.2] at g; exact g) (by rw [← HN.out.2]; exact H.out.sm.locks)).mono ?_
              rintro e w3 ⟨rfl, hb3⟩
              have H3 := Lib.hid (H2.out.1.trans (hb3.mono H2.out.1.size))
              clear hb3
              go_wp2
              go_ret
              exact ⟨by rw [HND.out]; simp only [s1, s2, s3, s4, s5, s6, Bool.true_and]; rfl, H3.out⟩
end Go.Proofs.Ytlijfnekopjogaa
