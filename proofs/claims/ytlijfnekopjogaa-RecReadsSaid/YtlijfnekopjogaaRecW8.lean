/- The coder writes: the fields of each kind (printed by gen_wf.py). -/
import Derived.Test.YtlijfnekopjogaaRecMems
import Derived.Test.YtlijfnekopjogaaRecWs
namespace Go.Proofs.Ytlijfnekopjogaa
open Go Go.RowKit Mem Rc
set_option maxRecDepth 100000
set_option linter.unusedVariables false
set_option linter.unusedSimpArgs false

set_option maxHeartbeats 8000000 in
theorem cw_fields1 (q : Nat) (bs : List UInt8) (F : Nat → Prop) (rb : Nat) (x : MD) (w0 w : World) (hx : x.kind = 1) (hw : WrAt w q bs F) (h0 : Below w0.heap.size w0 w) (hF : ∀ k, F k → w0.heap.size ≤ k) (hr : Blk w rb 30 (mCells x)) (hrb : ¬ F rb) (hok : MOk w0 x) (hf : FF x) (hl : bs.length + 20000000 ≤ 140737488351232) :
    Calls Try.prog 46 #[cw q, .pointer (some ⟨rb, 0, none⟩)] w (WrTo w F q (bs ++ [x.tx, x.prev].flatMap Sl.numB ++ Sl.textB x.key.data.toList ++ vC.enc x.old ++ vC.enc x.new)) := by
  obtain ⟨W, hW⟩ := cwW w q
  have e := hW.eq
  have c0 := hW.c0
  have c1 := hW.c1
  have hFw : ¬ F w.heap.size := fun h => Nat.lt_irrefl _ (hw.bound _ h)
  have HC0 := Lib.hid (FCn.mk hW hw.bound (h0.trans (hW.below.mono h0.size)) hF (hr.below hW.below hr.lt) hrb hr.lt hFw hok hf)
  have HS0 := Lib.hid (FSt.mk HC0.out (hw.below hW.below) (Fr.refl _ _) (fun k hk => .inl hk))
  have ck : W.cell? ⟨rb, 0, none⟩ = some (.int .i64 1) := by rw [← hx]; exact HC0.out.hr.cell 0
  have HL := Lib.hid hl
  clear hw h0 hF hr hrb hok hf hl hFw hW hx
  go_enter Try.func46, Try.ntmps46
  have hbW : Below W.heap.size W (W.alloc (.cells #[.pointer (some ⟨rb, 1, none⟩), .pointer (some ⟨rb, 2, none⟩)] 117)).drew := ((Below.refl _ _).alloc (Nat.le_refl _) _).drew
  have hp : Ptrs (W.alloc (.cells #[.pointer (some ⟨rb, 1, none⟩), .pointer (some ⟨rb, 2, none⟩)] 117)).drew W.heap.size rb [1, 2] [x.tx, x.prev] :=
    ⟨rfl, fun k hk => match k, hk with
      | 0, _ => (Blk.new W 117 #[.pointer (some ⟨rb, 1, none⟩), .pointer (some ⟨rb, 2, none⟩)]).cell 0
      | 1, _ => (Blk.new W 117 #[.pointer (some ⟨rb, 1, none⟩), .pointer (some ⟨rb, 2, none⟩)]).cell 1,
    fun k hk => match k, hk with
      | 0, _ => cell_below hbW (HS0.out.blk.cell 1)
      | 1, _ => cell_below hbW (HS0.out.blk.cell 2),
    fun k hk => match k, hk with
      | 0, _ => HC0.out.f.tx
      | 1, _ => HC0.out.f.prev⟩
  have HK0 := Lib.hid (cw_nums q (bs) F W.heap.size rb 2 [1, 2] [x.tx, x.prev] (W.alloc (.cells #[.pointer (some ⟨rb, 1, none⟩), .pointer (some ⟨rb, 2, none⟩)] 117)).drew (HS0.out.wr.below hbW) hp (fun h => Nat.lt_irrefl _ (HS0.out.wr.bound _ h)) HS0.out.nrb (by simp) (by have g1 := HL.out; omega))
  have HB0 := Lib.hid hbW
  clear hp hbW
  go_wp2_with fail
  refine wp_region_held_drew (S := (fun w' => w'.cell? ⟨w.heap.size, 0, none⟩ = some (.pointer (some ⟨q, 0, none⟩)) ∧ w'.cell? ⟨w.heap.size, 1, none⟩ = some (.pointer none))) (by kernel_rfl) ⟨c0, c1⟩ (fun hHeld => ?_)
  refine tk 0 25 (v := cw q) (h := ?_)
  refine tk 1 26 (v := .pointer (some ⟨rb, 0, none⟩)) (h := ?_)
  refine tk 2 27 (v := .pointer (some ⟨rb, 0, none⟩)) (h := ?_)
  refine tk 3 28 (v := .pointer (some ⟨rb, 1, none⟩)) (h := ?_)
  refine tk 4 29 (v := .pointer (some ⟨rb, 0, none⟩)) (h := ?_)
  refine tk 5 30 (v := .pointer (some ⟨rb, 0, none⟩)) (h := ?_)
  refine tk 6 31 (v := .pointer (some ⟨rb, 2, none⟩)) (h := ?_)
  refine wpAnyH_ready (rs := [7]) (by kernel_rfl) (by simp) ?_
  refine AllReadyH.cons rfl (fun K hK => ?_) AllReadyH.nil
  go_simp
  refine hK.out _ _ ⟨cell_alloc_some' _ c0, cell_alloc_some' _ c1⟩ (fun hHeld => ?_)
  clear hK K
  try simp only [Act.put, List.setIfInBounds_toArray, List.set_cons_zero, List.set_cons_succ]
  refine wpAnyH_ready (rs := [8]) (by kernel_rfl) (by simp) ?_
  refine AllReadyH.cons rfl (fun K hK => ?_) AllReadyH.nil
  go_simp
  refine HK0.out.mono ?_
  intro e w1 h4
  have h5 := h4.1
  obtain ⟨F1, h6⟩ := HS0.out.next HB0.out h4
  have HS1 := Lib.hid h6
  clear h4 h6
  subst h5
  refine hK.out _ _ ⟨HS1.out.co.c0, HS1.out.co.c1⟩ (fun hHeld => ?_)
  clear hK K
  try simp only [Act.put, List.setIfInBounds_toArray, List.set_cons_zero, List.set_cons_succ]
  refine wpAnyH_done (by kernel_rfl) ?_ _
  try clear hHeld
  have hp0 : ([x.tx, x.prev].flatMap Sl.numB).length ≤ 33 := Nat.le_trans (flatB_le _) (by simp)
  have HP0 := Lib.hid hp0
  clear hp0
  have a1 : w1.drew.cell? ⟨w.heap.size, 0, none⟩ = some (.pointer (some ⟨q, 0, none⟩)) := HS1.out.co.c0
  have b1 : w1.drew.cell? ⟨w.heap.size, 1, none⟩ = some (.pointer none) := HS1.out.co.c1
  have HK1 := Lib.hid (cw_text q (bs ++ [x.tx, x.prev].flatMap Sl.numB) F1 rb 4 x.key w1.drew (HS1.out.wr.below (Below.refl _ _).drew) (HS1.out.blk.cell 4) (by rw [List.length_append]; have g1 := HL.out; have g2 := HC0.out.f.key; have g5 := HP0.out; omega))
  go_wp2_with fail
  go_still_tail 4, (by kernel_rfl)
  go_wp2_with fail
  refine HK1.out.mono ?_
  intro e w2 h4
  have h5 := h4.1
  obtain ⟨F2, h6⟩ := HS1.out.next (Below.refl _ _).drew h4
  have HS2 := Lib.hid h6
  clear h4 h6
  subst h5
  have hp1 : (Sl.textB x.key.data.toList).length ≤ 43 := len_text HC0.out.f.key
  have HP1 := Lib.hid hp1
  clear hp1
  have a2 : w2.drew.cell? ⟨w.heap.size, 0, none⟩ = some (.pointer (some ⟨q, 0, none⟩)) := HS2.out.co.c0
  have b2 : w2.drew.cell? ⟨w.heap.size, 1, none⟩ = some (.pointer none) := HS2.out.co.c1
  have HK2 := Lib.hid (cw_value q (bs ++ [x.tx, x.prev].flatMap Sl.numB ++ Sl.textB x.key.data.toList) F2 rb 5 x.old w2.drew (HS2.out.wr.below (Below.refl _ _).drew) (HS2.out.blk.cell 5) (HS2.out.blk.cell 6) HS2.out.nrb HC0.out.f.old (by rw [List.length_append, List.length_append]; have g1 := HL.out; have g5 := HP0.out; have g6 := HP1.out; omega))
  go_wp2_with fail
  go_still_tail 4, (by kernel_rfl)
  go_wp2_with fail
  refine HK2.out.mono ?_
  intro e w3 h4
  have h5 := h4.1
  obtain ⟨F3, h6⟩ := HS2.out.next (Below.refl _ _).drew h4
  have HS3 := Lib.hid h6
  clear h4 h6
  subst h5
  have hp2 : (vC.enc x.old).length ≤ 44 := len_val HC0.out.f.old
  have HP2 := Lib.hid hp2
  clear hp2
  have a3 : w3.drew.cell? ⟨w.heap.size, 0, none⟩ = some (.pointer (some ⟨q, 0, none⟩)) := HS3.out.co.c0
  have b3 : w3.drew.cell? ⟨w.heap.size, 1, none⟩ = some (.pointer none) := HS3.out.co.c1
  have HK3 := Lib.hid (cw_value q (bs ++ [x.tx, x.prev].flatMap Sl.numB ++ Sl.textB x.key.data.toList ++ vC.enc x.old) F3 rb 7 x.new w3.drew (HS3.out.wr.below (Below.refl _ _).drew) (HS3.out.blk.cell 7) (HS3.out.blk.cell 8) HS3.out.nrb HC0.out.f.new (by rw [List.length_append, List.length_append, List.length_append]; have g1 := HL.out; have g5 := HP0.out; have g6 := HP1.out; have g7 := HP2.out; omega))
  go_wp2_with fail
  go_still_tail 4, (by kernel_rfl)
  go_wp2_with fail
  refine HK3.out.mono ?_
  intro e w4 h4
  have h5 := h4.1
  obtain ⟨F4, h6⟩ := HS3.out.next (Below.refl _ _).drew h4
  have HS4 := Lib.hid h6
  clear h4 h6
  subst h5
  go_wp2
  go_end0
  exact HS4.out.done (e := .returned (.tuple #[]))
set_option maxHeartbeats 8000000 in
theorem cw_fields2 (q : Nat) (bs : List UInt8) (F : Nat → Prop) (rb : Nat) (x : MD) (w0 w : World) (hx : x.kind = 2) (hw : WrAt w q bs F) (h0 : Below w0.heap.size w0 w) (hF : ∀ k, F k → w0.heap.size ≤ k) (hr : Blk w rb 30 (mCells x)) (hrb : ¬ F rb) (hok : MOk w0 x) (hf : FF x) (hl : bs.length + 20000000 ≤ 140737488351232) :
    Calls Try.prog 46 #[cw q, .pointer (some ⟨rb, 0, none⟩)] w (WrTo w F q (bs ++ [x.tx, x.prev, x.nxt].flatMap Sl.numB ++ Sl.textB x.key.data.toList ++ vC.enc x.new)) := by
  obtain ⟨W, hW⟩ := cwW w q
  have e := hW.eq
  have c0 := hW.c0
  have c1 := hW.c1
  have hFw : ¬ F w.heap.size := fun h => Nat.lt_irrefl _ (hw.bound _ h)
  have HC0 := Lib.hid (FCn.mk hW hw.bound (h0.trans (hW.below.mono h0.size)) hF (hr.below hW.below hr.lt) hrb hr.lt hFw hok hf)
  have HS0 := Lib.hid (FSt.mk HC0.out (hw.below hW.below) (Fr.refl _ _) (fun k hk => .inl hk))
  have ck : W.cell? ⟨rb, 0, none⟩ = some (.int .i64 2) := by rw [← hx]; exact HC0.out.hr.cell 0
  have HL := Lib.hid hl
  clear hw h0 hF hr hrb hok hf hl hFw hW hx
  go_enter Try.func46, Try.ntmps46
  have hbW : Below W.heap.size W (W.alloc (.cells #[.pointer (some ⟨rb, 1, none⟩), .pointer (some ⟨rb, 2, none⟩), .pointer (some ⟨rb, 3, none⟩)] 117)).drew := ((Below.refl _ _).alloc (Nat.le_refl _) _).drew
  have hp : Ptrs (W.alloc (.cells #[.pointer (some ⟨rb, 1, none⟩), .pointer (some ⟨rb, 2, none⟩), .pointer (some ⟨rb, 3, none⟩)] 117)).drew W.heap.size rb [1, 2, 3] [x.tx, x.prev, x.nxt] :=
    ⟨rfl, fun k hk => match k, hk with
      | 0, _ => (Blk.new W 117 #[.pointer (some ⟨rb, 1, none⟩), .pointer (some ⟨rb, 2, none⟩), .pointer (some ⟨rb, 3, none⟩)]).cell 0
      | 1, _ => (Blk.new W 117 #[.pointer (some ⟨rb, 1, none⟩), .pointer (some ⟨rb, 2, none⟩), .pointer (some ⟨rb, 3, none⟩)]).cell 1
      | 2, _ => (Blk.new W 117 #[.pointer (some ⟨rb, 1, none⟩), .pointer (some ⟨rb, 2, none⟩), .pointer (some ⟨rb, 3, none⟩)]).cell 2,
    fun k hk => match k, hk with
      | 0, _ => cell_below hbW (HS0.out.blk.cell 1)
      | 1, _ => cell_below hbW (HS0.out.blk.cell 2)
      | 2, _ => cell_below hbW (HS0.out.blk.cell 3),
    fun k hk => match k, hk with
      | 0, _ => HC0.out.f.tx
      | 1, _ => HC0.out.f.prev
      | 2, _ => HC0.out.f.nxt⟩
  have HK0 := Lib.hid (cw_nums q (bs) F W.heap.size rb 3 [1, 2, 3] [x.tx, x.prev, x.nxt] (W.alloc (.cells #[.pointer (some ⟨rb, 1, none⟩), .pointer (some ⟨rb, 2, none⟩), .pointer (some ⟨rb, 3, none⟩)] 117)).drew (HS0.out.wr.below hbW) hp (fun h => Nat.lt_irrefl _ (HS0.out.wr.bound _ h)) HS0.out.nrb (by simp) (by have g1 := HL.out; omega))
  have HB0 := Lib.hid hbW
  clear hp hbW
  go_wp2_with fail
  refine wp_region_held_drew (S := (fun w' => w'.cell? ⟨w.heap.size, 0, none⟩ = some (.pointer (some ⟨q, 0, none⟩)) ∧ w'.cell? ⟨w.heap.size, 1, none⟩ = some (.pointer none))) (by kernel_rfl) ⟨c0, c1⟩ (fun hHeld => ?_)
  refine tk 0 49 (v := cw q) (h := ?_)
  refine tk 1 50 (v := .pointer (some ⟨rb, 0, none⟩)) (h := ?_)
  refine tk 2 51 (v := .pointer (some ⟨rb, 0, none⟩)) (h := ?_)
  refine tk 3 52 (v := .pointer (some ⟨rb, 1, none⟩)) (h := ?_)
  refine tk 4 53 (v := .pointer (some ⟨rb, 0, none⟩)) (h := ?_)
  refine tk 5 54 (v := .pointer (some ⟨rb, 0, none⟩)) (h := ?_)
  refine tk 6 55 (v := .pointer (some ⟨rb, 2, none⟩)) (h := ?_)
  refine tk 7 56 (v := .pointer (some ⟨rb, 0, none⟩)) (h := ?_)
  refine tk 8 57 (v := .pointer (some ⟨rb, 0, none⟩)) (h := ?_)
  refine tk 9 58 (v := .pointer (some ⟨rb, 3, none⟩)) (h := ?_)
  refine wpAnyH_ready (rs := [10]) (by kernel_rfl) (by simp) ?_
  refine AllReadyH.cons rfl (fun K hK => ?_) AllReadyH.nil
  go_simp
  refine hK.out _ _ ⟨cell_alloc_some' _ c0, cell_alloc_some' _ c1⟩ (fun hHeld => ?_)
  clear hK K
  try simp only [Act.put, List.setIfInBounds_toArray, List.set_cons_zero, List.set_cons_succ]
  refine wpAnyH_ready (rs := [11]) (by kernel_rfl) (by simp) ?_
  refine AllReadyH.cons rfl (fun K hK => ?_) AllReadyH.nil
  go_simp
  refine HK0.out.mono ?_
  intro e w1 h4
  have h5 := h4.1
  obtain ⟨F1, h6⟩ := HS0.out.next HB0.out h4
  have HS1 := Lib.hid h6
  clear h4 h6
  subst h5
  refine hK.out _ _ ⟨HS1.out.co.c0, HS1.out.co.c1⟩ (fun hHeld => ?_)
  clear hK K
  try simp only [Act.put, List.setIfInBounds_toArray, List.set_cons_zero, List.set_cons_succ]
  refine wpAnyH_done (by kernel_rfl) ?_ _
  try clear hHeld
  have hp0 : ([x.tx, x.prev, x.nxt].flatMap Sl.numB).length ≤ 33 := Nat.le_trans (flatB_le _) (by simp)
  have HP0 := Lib.hid hp0
  clear hp0
  have a1 : w1.drew.cell? ⟨w.heap.size, 0, none⟩ = some (.pointer (some ⟨q, 0, none⟩)) := HS1.out.co.c0
  have b1 : w1.drew.cell? ⟨w.heap.size, 1, none⟩ = some (.pointer none) := HS1.out.co.c1
  have HK1 := Lib.hid (cw_text q (bs ++ [x.tx, x.prev, x.nxt].flatMap Sl.numB) F1 rb 4 x.key w1.drew (HS1.out.wr.below (Below.refl _ _).drew) (HS1.out.blk.cell 4) (by rw [List.length_append]; have g1 := HL.out; have g2 := HC0.out.f.key; have g5 := HP0.out; omega))
  go_wp2_with fail
  go_still_tail 4, (by kernel_rfl)
  go_wp2_with fail
  refine HK1.out.mono ?_
  intro e w2 h4
  have h5 := h4.1
  obtain ⟨F2, h6⟩ := HS1.out.next (Below.refl _ _).drew h4
  have HS2 := Lib.hid h6
  clear h4 h6
  subst h5
  have hp1 : (Sl.textB x.key.data.toList).length ≤ 43 := len_text HC0.out.f.key
  have HP1 := Lib.hid hp1
  clear hp1
  have a2 : w2.drew.cell? ⟨w.heap.size, 0, none⟩ = some (.pointer (some ⟨q, 0, none⟩)) := HS2.out.co.c0
  have b2 : w2.drew.cell? ⟨w.heap.size, 1, none⟩ = some (.pointer none) := HS2.out.co.c1
  have HK2 := Lib.hid (cw_value q (bs ++ [x.tx, x.prev, x.nxt].flatMap Sl.numB ++ Sl.textB x.key.data.toList) F2 rb 7 x.new w2.drew (HS2.out.wr.below (Below.refl _ _).drew) (HS2.out.blk.cell 7) (HS2.out.blk.cell 8) HS2.out.nrb HC0.out.f.new (by rw [List.length_append, List.length_append]; have g1 := HL.out; have g5 := HP0.out; have g6 := HP1.out; omega))
  go_wp2_with fail
  go_still_tail 4, (by kernel_rfl)
  go_wp2_with fail
  refine HK2.out.mono ?_
  intro e w3 h4
  have h5 := h4.1
  obtain ⟨F3, h6⟩ := HS2.out.next (Below.refl _ _).drew h4
  have HS3 := Lib.hid h6
  clear h4 h6
  subst h5
  go_wp2
  go_end0
  exact HS3.out.done (e := .returned (.tuple #[]))
set_option maxHeartbeats 8000000 in
theorem cw_fields3 (q : Nat) (bs : List UInt8) (F : Nat → Prop) (rb : Nat) (x : MD) (w0 w : World) (hx : x.kind = 3) (hw : WrAt w q bs F) (h0 : Below w0.heap.size w0 w) (hF : ∀ k, F k → w0.heap.size ≤ k) (hr : Blk w rb 30 (mCells x)) (hrb : ¬ F rb) (hok : MOk w0 x) (hf : FF x) (hl : bs.length + 20000000 ≤ 140737488351232) :
    Calls Try.prog 46 #[cw q, .pointer (some ⟨rb, 0, none⟩)] w (WrTo w F q (bs ++ [x.tx, x.prev, x.coord].flatMap Sl.numB ++ iC.enc x.mem ++ lsC.enc x.locks)) := by
  obtain ⟨W, hW⟩ := cwW w q
  have e := hW.eq
  have c0 := hW.c0
  have c1 := hW.c1
  have hFw : ¬ F w.heap.size := fun h => Nat.lt_irrefl _ (hw.bound _ h)
  have HC0 := Lib.hid (FCn.mk hW hw.bound (h0.trans (hW.below.mono h0.size)) hF (hr.below hW.below hr.lt) hrb hr.lt hFw hok hf)
  have HS0 := Lib.hid (FSt.mk HC0.out (hw.below hW.below) (Fr.refl _ _) (fun k hk => .inl hk))
  have ck : W.cell? ⟨rb, 0, none⟩ = some (.int .i64 3) := by rw [← hx]; exact HC0.out.hr.cell 0
  have HL := Lib.hid hl
  clear hw h0 hF hr hrb hok hf hl hFw hW hx
  go_enter Try.func46, Try.ntmps46
  have hbW : Below W.heap.size W (W.alloc (.cells #[.pointer (some ⟨rb, 1, none⟩), .pointer (some ⟨rb, 2, none⟩), .pointer (some ⟨rb, 9, none⟩)] 117)).drew := ((Below.refl _ _).alloc (Nat.le_refl _) _).drew
  have hp : Ptrs (W.alloc (.cells #[.pointer (some ⟨rb, 1, none⟩), .pointer (some ⟨rb, 2, none⟩), .pointer (some ⟨rb, 9, none⟩)] 117)).drew W.heap.size rb [1, 2, 9] [x.tx, x.prev, x.coord] :=
    ⟨rfl, fun k hk => match k, hk with
      | 0, _ => (Blk.new W 117 #[.pointer (some ⟨rb, 1, none⟩), .pointer (some ⟨rb, 2, none⟩), .pointer (some ⟨rb, 9, none⟩)]).cell 0
      | 1, _ => (Blk.new W 117 #[.pointer (some ⟨rb, 1, none⟩), .pointer (some ⟨rb, 2, none⟩), .pointer (some ⟨rb, 9, none⟩)]).cell 1
      | 2, _ => (Blk.new W 117 #[.pointer (some ⟨rb, 1, none⟩), .pointer (some ⟨rb, 2, none⟩), .pointer (some ⟨rb, 9, none⟩)]).cell 2,
    fun k hk => match k, hk with
      | 0, _ => cell_below hbW (HS0.out.blk.cell 1)
      | 1, _ => cell_below hbW (HS0.out.blk.cell 2)
      | 2, _ => cell_below hbW (HS0.out.blk.cell 9),
    fun k hk => match k, hk with
      | 0, _ => HC0.out.f.tx
      | 1, _ => HC0.out.f.prev
      | 2, _ => HC0.out.f.coord⟩
  have HK0 := Lib.hid (cw_nums q (bs) F W.heap.size rb 3 [1, 2, 9] [x.tx, x.prev, x.coord] (W.alloc (.cells #[.pointer (some ⟨rb, 1, none⟩), .pointer (some ⟨rb, 2, none⟩), .pointer (some ⟨rb, 9, none⟩)] 117)).drew (HS0.out.wr.below hbW) hp (fun h => Nat.lt_irrefl _ (HS0.out.wr.bound _ h)) HS0.out.nrb (by simp) (by have g1 := HL.out; omega))
  have HB0 := Lib.hid hbW
  clear hp hbW
  go_wp2_with fail
  refine wp_region_held_drew (S := (fun w' => w'.cell? ⟨w.heap.size, 0, none⟩ = some (.pointer (some ⟨q, 0, none⟩)) ∧ w'.cell? ⟨w.heap.size, 1, none⟩ = some (.pointer none))) (by kernel_rfl) ⟨c0, c1⟩ (fun hHeld => ?_)
  refine tk 0 71 (v := cw q) (h := ?_)
  refine tk 1 72 (v := .pointer (some ⟨rb, 0, none⟩)) (h := ?_)
  refine tk 2 73 (v := .pointer (some ⟨rb, 0, none⟩)) (h := ?_)
  refine tk 3 74 (v := .pointer (some ⟨rb, 1, none⟩)) (h := ?_)
  refine tk 4 75 (v := .pointer (some ⟨rb, 0, none⟩)) (h := ?_)
  refine tk 5 76 (v := .pointer (some ⟨rb, 0, none⟩)) (h := ?_)
  refine tk 6 77 (v := .pointer (some ⟨rb, 2, none⟩)) (h := ?_)
  refine tk 7 78 (v := .pointer (some ⟨rb, 0, none⟩)) (h := ?_)
  refine tk 8 79 (v := .pointer (some ⟨rb, 0, none⟩)) (h := ?_)
  refine tk 9 80 (v := .pointer (some ⟨rb, 9, none⟩)) (h := ?_)
  refine wpAnyH_ready (rs := [10]) (by kernel_rfl) (by simp) ?_
  refine AllReadyH.cons rfl (fun K hK => ?_) AllReadyH.nil
  go_simp
  refine hK.out _ _ ⟨cell_alloc_some' _ c0, cell_alloc_some' _ c1⟩ (fun hHeld => ?_)
  clear hK K
  try simp only [Act.put, List.setIfInBounds_toArray, List.set_cons_zero, List.set_cons_succ]
  refine wpAnyH_ready (rs := [11]) (by kernel_rfl) (by simp) ?_
  refine AllReadyH.cons rfl (fun K hK => ?_) AllReadyH.nil
  go_simp
  refine HK0.out.mono ?_
  intro e w1 h4
  have h5 := h4.1
  obtain ⟨F1, h6⟩ := HS0.out.next HB0.out h4
  have HS1 := Lib.hid h6
  clear h4 h6
  subst h5
  refine hK.out _ _ ⟨HS1.out.co.c0, HS1.out.co.c1⟩ (fun hHeld => ?_)
  clear hK K
  try simp only [Act.put, List.setIfInBounds_toArray, List.set_cons_zero, List.set_cons_succ]
  refine wpAnyH_done (by kernel_rfl) ?_ _
  try clear hHeld
  have hp0 : ([x.tx, x.prev, x.coord].flatMap Sl.numB).length ≤ 33 := Nat.le_trans (flatB_le _) (by simp)
  have HP0 := Lib.hid hp0
  clear hp0
  have a1 : w1.drew.cell? ⟨w.heap.size, 0, none⟩ = some (.pointer (some ⟨q, 0, none⟩)) := HS1.out.co.c0
  have b1 : w1.drew.cell? ⟨w.heap.size, 1, none⟩ = some (.pointer none) := HS1.out.co.c1
  have HK1 := Lib.hid (cw_ints q (bs ++ [x.tx, x.prev, x.coord].flatMap Sl.numB) F1 rb 10 x.mA x.mem.length x.mc x.mem w0 w1.drew (HS1.out.wr.below (Below.refl _ _).drew) HS1.out.h0.drew HS1.out.hF (HS1.out.blk.cell 10) HS1.out.nrb HC0.out.ok.mem (by have := HC0.out.f.mlen; omega) HC0.out.f.mem (by rw [List.length_append]; have g1 := HL.out; have g5 := HP0.out; omega))
  go_wp2_with fail
  go_still_tail 4, (by kernel_rfl)
  go_wp2_with fail
  refine HK1.out.mono ?_
  intro e w2 h4
  have h5 := h4.1
  obtain ⟨F2, h6⟩ := HS1.out.next (Below.refl _ _).drew h4
  have HS2 := Lib.hid h6
  clear h4 h6
  subst h5
  have hp1 : (iC.enc x.mem).length ≤ 99 := len_ints HC0.out.f.mlen
  have HP1 := Lib.hid hp1
  clear hp1
  have a2 : w2.drew.cell? ⟨w.heap.size, 0, none⟩ = some (.pointer (some ⟨q, 0, none⟩)) := HS2.out.co.c0
  have b2 : w2.drew.cell? ⟨w.heap.size, 1, none⟩ = some (.pointer none) := HS2.out.co.c1
  have HK2 := Lib.hid (cw_locks q (bs ++ [x.tx, x.prev, x.coord].flatMap Sl.numB ++ iC.enc x.mem) F2 rb 11 x.lA x.locks.length x.lc x.locks w0 w2.drew (HS2.out.wr.below (Below.refl _ _).drew) HS2.out.h0.drew HS2.out.hF (HS2.out.blk.cell 11) HS2.out.nrb HC0.out.ok.locks (by have := HC0.out.f.llen; omega) HC0.out.f.locks (by rw [List.length_append, List.length_append]; have g1 := HL.out; have g5 := HP0.out; have g6 := HP1.out; omega))
  go_wp2_with fail
  go_still_tail 4, (by kernel_rfl)
  go_wp2_with fail
  refine HK2.out.mono ?_
  intro e w3 h4
  have h5 := h4.1
  obtain ⟨F3, h6⟩ := HS2.out.next (Below.refl _ _).drew h4
  have HS3 := Lib.hid h6
  clear h4 h6
  subst h5
  go_wp2
  go_end0
  exact HS3.out.done (e := .returned (.tuple #[]))
set_option maxHeartbeats 8000000 in
theorem cw_fields4 (q : Nat) (bs : List UInt8) (F : Nat → Prop) (rb : Nat) (x : MD) (w0 w : World) (hx : x.kind = 4) (hw : WrAt w q bs F) (h0 : Below w0.heap.size w0 w) (hF : ∀ k, F k → w0.heap.size ≤ k) (hr : Blk w rb 30 (mCells x)) (hrb : ¬ F rb) (hok : MOk w0 x) (hf : FF x) (hl : bs.length + 20000000 ≤ 140737488351232) :
    Calls Try.prog 46 #[cw q, .pointer (some ⟨rb, 0, none⟩)] w (WrTo w F q (bs ++ [x.tx, x.prev].flatMap Sl.numB)) := by
  obtain ⟨W, hW⟩ := cwW w q
  have e := hW.eq
  have c0 := hW.c0
  have c1 := hW.c1
  have hFw : ¬ F w.heap.size := fun h => Nat.lt_irrefl _ (hw.bound _ h)
  have HC0 := Lib.hid (FCn.mk hW hw.bound (h0.trans (hW.below.mono h0.size)) hF (hr.below hW.below hr.lt) hrb hr.lt hFw hok hf)
  have HS0 := Lib.hid (FSt.mk HC0.out (hw.below hW.below) (Fr.refl _ _) (fun k hk => .inl hk))
  have ck : W.cell? ⟨rb, 0, none⟩ = some (.int .i64 4) := by rw [← hx]; exact HC0.out.hr.cell 0
  have HL := Lib.hid hl
  clear hw h0 hF hr hrb hok hf hl hFw hW hx
  go_enter Try.func46, Try.ntmps46
  have hbW : Below W.heap.size W (W.alloc (.cells #[.pointer (some ⟨rb, 1, none⟩), .pointer (some ⟨rb, 2, none⟩)] 117)).drew := ((Below.refl _ _).alloc (Nat.le_refl _) _).drew
  have hp : Ptrs (W.alloc (.cells #[.pointer (some ⟨rb, 1, none⟩), .pointer (some ⟨rb, 2, none⟩)] 117)).drew W.heap.size rb [1, 2] [x.tx, x.prev] :=
    ⟨rfl, fun k hk => match k, hk with
      | 0, _ => (Blk.new W 117 #[.pointer (some ⟨rb, 1, none⟩), .pointer (some ⟨rb, 2, none⟩)]).cell 0
      | 1, _ => (Blk.new W 117 #[.pointer (some ⟨rb, 1, none⟩), .pointer (some ⟨rb, 2, none⟩)]).cell 1,
    fun k hk => match k, hk with
      | 0, _ => cell_below hbW (HS0.out.blk.cell 1)
      | 1, _ => cell_below hbW (HS0.out.blk.cell 2),
    fun k hk => match k, hk with
      | 0, _ => HC0.out.f.tx
      | 1, _ => HC0.out.f.prev⟩
  have HK0 := Lib.hid (cw_nums q (bs) F W.heap.size rb 2 [1, 2] [x.tx, x.prev] (W.alloc (.cells #[.pointer (some ⟨rb, 1, none⟩), .pointer (some ⟨rb, 2, none⟩)] 117)).drew (HS0.out.wr.below hbW) hp (fun h => Nat.lt_irrefl _ (HS0.out.wr.bound _ h)) HS0.out.nrb (by simp) (by have g1 := HL.out; omega))
  have HB0 := Lib.hid hbW
  clear hp hbW
  go_wp2_with fail
  refine wp_region_held_drew (S := (fun w' => w'.cell? ⟨w.heap.size, 0, none⟩ = some (.pointer (some ⟨q, 0, none⟩)) ∧ w'.cell? ⟨w.heap.size, 1, none⟩ = some (.pointer none))) (by kernel_rfl) ⟨c0, c1⟩ (fun hHeld => ?_)
  refine tk 0 93 (v := cw q) (h := ?_)
  refine tk 1 94 (v := .pointer (some ⟨rb, 0, none⟩)) (h := ?_)
  refine tk 2 95 (v := .pointer (some ⟨rb, 0, none⟩)) (h := ?_)
  refine tk 3 96 (v := .pointer (some ⟨rb, 1, none⟩)) (h := ?_)
  refine tk 4 97 (v := .pointer (some ⟨rb, 0, none⟩)) (h := ?_)
  refine tk 5 98 (v := .pointer (some ⟨rb, 0, none⟩)) (h := ?_)
  refine tk 6 99 (v := .pointer (some ⟨rb, 2, none⟩)) (h := ?_)
  refine wpAnyH_ready (rs := [7]) (by kernel_rfl) (by simp) ?_
  refine AllReadyH.cons rfl (fun K hK => ?_) AllReadyH.nil
  go_simp
  refine hK.out _ _ ⟨cell_alloc_some' _ c0, cell_alloc_some' _ c1⟩ (fun hHeld => ?_)
  clear hK K
  try simp only [Act.put, List.setIfInBounds_toArray, List.set_cons_zero, List.set_cons_succ]
  refine wpAnyH_ready (rs := [8]) (by kernel_rfl) (by simp) ?_
  refine AllReadyH.cons rfl (fun K hK => ?_) AllReadyH.nil
  go_simp
  refine HK0.out.mono ?_
  intro e w1 h4
  have h5 := h4.1
  obtain ⟨F1, h6⟩ := HS0.out.next HB0.out h4
  have HS1 := Lib.hid h6
  clear h4 h6
  subst h5
  refine hK.out _ _ ⟨HS1.out.co.c0, HS1.out.co.c1⟩ (fun hHeld => ?_)
  clear hK K
  try simp only [Act.put, List.setIfInBounds_toArray, List.set_cons_zero, List.set_cons_succ]
  refine wpAnyH_done (by kernel_rfl) ?_ _
  try clear hHeld
  go_wp2
  go_end0
  exact HS1.out.done (e := .returned (.tuple #[]))
set_option maxHeartbeats 8000000 in
theorem cw_fields5 (q : Nat) (bs : List UInt8) (F : Nat → Prop) (rb : Nat) (x : MD) (w0 w : World) (hx : x.kind = 5) (hw : WrAt w q bs F) (h0 : Below w0.heap.size w0 w) (hF : ∀ k, F k → w0.heap.size ≤ k) (hr : Blk w rb 30 (mCells x)) (hrb : ¬ F rb) (hok : MOk w0 x) (hf : FF x) (hl : bs.length + 20000000 ≤ 140737488351232) :
    Calls Try.prog 46 #[cw q, .pointer (some ⟨rb, 0, none⟩)] w (WrTo w F q (bs ++ [x.tx, x.prev].flatMap Sl.numB)) := by
  obtain ⟨W, hW⟩ := cwW w q
  have e := hW.eq
  have c0 := hW.c0
  have c1 := hW.c1
  have hFw : ¬ F w.heap.size := fun h => Nat.lt_irrefl _ (hw.bound _ h)
  have HC0 := Lib.hid (FCn.mk hW hw.bound (h0.trans (hW.below.mono h0.size)) hF (hr.below hW.below hr.lt) hrb hr.lt hFw hok hf)
  have HS0 := Lib.hid (FSt.mk HC0.out (hw.below hW.below) (Fr.refl _ _) (fun k hk => .inl hk))
  have ck : W.cell? ⟨rb, 0, none⟩ = some (.int .i64 5) := by rw [← hx]; exact HC0.out.hr.cell 0
  have HL := Lib.hid hl
  clear hw h0 hF hr hrb hok hf hl hFw hW hx
  go_enter Try.func46, Try.ntmps46
  have hbW : Below W.heap.size W (W.alloc (.cells #[.pointer (some ⟨rb, 1, none⟩), .pointer (some ⟨rb, 2, none⟩)] 117)).drew := ((Below.refl _ _).alloc (Nat.le_refl _) _).drew
  have hp : Ptrs (W.alloc (.cells #[.pointer (some ⟨rb, 1, none⟩), .pointer (some ⟨rb, 2, none⟩)] 117)).drew W.heap.size rb [1, 2] [x.tx, x.prev] :=
    ⟨rfl, fun k hk => match k, hk with
      | 0, _ => (Blk.new W 117 #[.pointer (some ⟨rb, 1, none⟩), .pointer (some ⟨rb, 2, none⟩)]).cell 0
      | 1, _ => (Blk.new W 117 #[.pointer (some ⟨rb, 1, none⟩), .pointer (some ⟨rb, 2, none⟩)]).cell 1,
    fun k hk => match k, hk with
      | 0, _ => cell_below hbW (HS0.out.blk.cell 1)
      | 1, _ => cell_below hbW (HS0.out.blk.cell 2),
    fun k hk => match k, hk with
      | 0, _ => HC0.out.f.tx
      | 1, _ => HC0.out.f.prev⟩
  have HK0 := Lib.hid (cw_nums q (bs) F W.heap.size rb 2 [1, 2] [x.tx, x.prev] (W.alloc (.cells #[.pointer (some ⟨rb, 1, none⟩), .pointer (some ⟨rb, 2, none⟩)] 117)).drew (HS0.out.wr.below hbW) hp (fun h => Nat.lt_irrefl _ (HS0.out.wr.bound _ h)) HS0.out.nrb (by simp) (by have g1 := HL.out; omega))
  have HB0 := Lib.hid hbW
  clear hp hbW
  go_wp2_with fail
  refine wp_region_held_drew (S := (fun w' => w'.cell? ⟨w.heap.size, 0, none⟩ = some (.pointer (some ⟨q, 0, none⟩)) ∧ w'.cell? ⟨w.heap.size, 1, none⟩ = some (.pointer none))) (by kernel_rfl) ⟨c0, c1⟩ (fun hHeld => ?_)
  refine tk 0 93 (v := cw q) (h := ?_)
  refine tk 1 94 (v := .pointer (some ⟨rb, 0, none⟩)) (h := ?_)
  refine tk 2 95 (v := .pointer (some ⟨rb, 0, none⟩)) (h := ?_)
  refine tk 3 96 (v := .pointer (some ⟨rb, 1, none⟩)) (h := ?_)
  refine tk 4 97 (v := .pointer (some ⟨rb, 0, none⟩)) (h := ?_)
  refine tk 5 98 (v := .pointer (some ⟨rb, 0, none⟩)) (h := ?_)
  refine tk 6 99 (v := .pointer (some ⟨rb, 2, none⟩)) (h := ?_)
  refine wpAnyH_ready (rs := [7]) (by kernel_rfl) (by simp) ?_
  refine AllReadyH.cons rfl (fun K hK => ?_) AllReadyH.nil
  go_simp
  refine hK.out _ _ ⟨cell_alloc_some' _ c0, cell_alloc_some' _ c1⟩ (fun hHeld => ?_)
  clear hK K
  try simp only [Act.put, List.setIfInBounds_toArray, List.set_cons_zero, List.set_cons_succ]
  refine wpAnyH_ready (rs := [8]) (by kernel_rfl) (by simp) ?_
  refine AllReadyH.cons rfl (fun K hK => ?_) AllReadyH.nil
  go_simp
  refine HK0.out.mono ?_
  intro e w1 h4
  have h5 := h4.1
  obtain ⟨F1, h6⟩ := HS0.out.next HB0.out h4
  have HS1 := Lib.hid h6
  clear h4 h6
  subst h5
  refine hK.out _ _ ⟨HS1.out.co.c0, HS1.out.co.c1⟩ (fun hHeld => ?_)
  clear hK K
  try simp only [Act.put, List.setIfInBounds_toArray, List.set_cons_zero, List.set_cons_succ]
  refine wpAnyH_done (by kernel_rfl) ?_ _
  try clear hHeld
  go_wp2
  go_end0
  exact HS1.out.done (e := .returned (.tuple #[]))
set_option maxHeartbeats 8000000 in
theorem cw_fields6 (q : Nat) (bs : List UInt8) (F : Nat → Prop) (rb : Nat) (x : MD) (w0 w : World) (hx : x.kind = 6) (hw : WrAt w q bs F) (h0 : Below w0.heap.size w0 w) (hF : ∀ k, F k → w0.heap.size ≤ k) (hr : Blk w rb 30 (mCells x)) (hrb : ¬ F rb) (hok : MOk w0 x) (hf : FF x) (hl : bs.length + 20000000 ≤ 140737488351232) :
    Calls Try.prog 46 #[cw q, .pointer (some ⟨rb, 0, none⟩)] w (WrTo w F q (bs ++ [x.tx, x.prev].flatMap Sl.numB)) := by
  obtain ⟨W, hW⟩ := cwW w q
  have e := hW.eq
  have c0 := hW.c0
  have c1 := hW.c1
  have hFw : ¬ F w.heap.size := fun h => Nat.lt_irrefl _ (hw.bound _ h)
  have HC0 := Lib.hid (FCn.mk hW hw.bound (h0.trans (hW.below.mono h0.size)) hF (hr.below hW.below hr.lt) hrb hr.lt hFw hok hf)
  have HS0 := Lib.hid (FSt.mk HC0.out (hw.below hW.below) (Fr.refl _ _) (fun k hk => .inl hk))
  have ck : W.cell? ⟨rb, 0, none⟩ = some (.int .i64 6) := by rw [← hx]; exact HC0.out.hr.cell 0
  have HL := Lib.hid hl
  clear hw h0 hF hr hrb hok hf hl hFw hW hx
  go_enter Try.func46, Try.ntmps46
  have hbW : Below W.heap.size W (W.alloc (.cells #[.pointer (some ⟨rb, 1, none⟩), .pointer (some ⟨rb, 2, none⟩)] 117)).drew := ((Below.refl _ _).alloc (Nat.le_refl _) _).drew
  have hp : Ptrs (W.alloc (.cells #[.pointer (some ⟨rb, 1, none⟩), .pointer (some ⟨rb, 2, none⟩)] 117)).drew W.heap.size rb [1, 2] [x.tx, x.prev] :=
    ⟨rfl, fun k hk => match k, hk with
      | 0, _ => (Blk.new W 117 #[.pointer (some ⟨rb, 1, none⟩), .pointer (some ⟨rb, 2, none⟩)]).cell 0
      | 1, _ => (Blk.new W 117 #[.pointer (some ⟨rb, 1, none⟩), .pointer (some ⟨rb, 2, none⟩)]).cell 1,
    fun k hk => match k, hk with
      | 0, _ => cell_below hbW (HS0.out.blk.cell 1)
      | 1, _ => cell_below hbW (HS0.out.blk.cell 2),
    fun k hk => match k, hk with
      | 0, _ => HC0.out.f.tx
      | 1, _ => HC0.out.f.prev⟩
  have HK0 := Lib.hid (cw_nums q (bs) F W.heap.size rb 2 [1, 2] [x.tx, x.prev] (W.alloc (.cells #[.pointer (some ⟨rb, 1, none⟩), .pointer (some ⟨rb, 2, none⟩)] 117)).drew (HS0.out.wr.below hbW) hp (fun h => Nat.lt_irrefl _ (HS0.out.wr.bound _ h)) HS0.out.nrb (by simp) (by have g1 := HL.out; omega))
  have HB0 := Lib.hid hbW
  clear hp hbW
  go_wp2_with fail
  refine wp_region_held_drew (S := (fun w' => w'.cell? ⟨w.heap.size, 0, none⟩ = some (.pointer (some ⟨q, 0, none⟩)) ∧ w'.cell? ⟨w.heap.size, 1, none⟩ = some (.pointer none))) (by kernel_rfl) ⟨c0, c1⟩ (fun hHeld => ?_)
  refine tk 0 93 (v := cw q) (h := ?_)
  refine tk 1 94 (v := .pointer (some ⟨rb, 0, none⟩)) (h := ?_)
  refine tk 2 95 (v := .pointer (some ⟨rb, 0, none⟩)) (h := ?_)
  refine tk 3 96 (v := .pointer (some ⟨rb, 1, none⟩)) (h := ?_)
  refine tk 4 97 (v := .pointer (some ⟨rb, 0, none⟩)) (h := ?_)
  refine tk 5 98 (v := .pointer (some ⟨rb, 0, none⟩)) (h := ?_)
  refine tk 6 99 (v := .pointer (some ⟨rb, 2, none⟩)) (h := ?_)
  refine wpAnyH_ready (rs := [7]) (by kernel_rfl) (by simp) ?_
  refine AllReadyH.cons rfl (fun K hK => ?_) AllReadyH.nil
  go_simp
  refine hK.out _ _ ⟨cell_alloc_some' _ c0, cell_alloc_some' _ c1⟩ (fun hHeld => ?_)
  clear hK K
  try simp only [Act.put, List.setIfInBounds_toArray, List.set_cons_zero, List.set_cons_succ]
  refine wpAnyH_ready (rs := [8]) (by kernel_rfl) (by simp) ?_
  refine AllReadyH.cons rfl (fun K hK => ?_) AllReadyH.nil
  go_simp
  refine HK0.out.mono ?_
  intro e w1 h4
  have h5 := h4.1
  obtain ⟨F1, h6⟩ := HS0.out.next HB0.out h4
  have HS1 := Lib.hid h6
  clear h4 h6
  subst h5
  refine hK.out _ _ ⟨HS1.out.co.c0, HS1.out.co.c1⟩ (fun hHeld => ?_)
  clear hK K
  try simp only [Act.put, List.setIfInBounds_toArray, List.set_cons_zero, List.set_cons_succ]
  refine wpAnyH_done (by kernel_rfl) ?_ _
  try clear hHeld
  go_wp2
  go_end0
  exact HS1.out.done (e := .returned (.tuple #[]))
set_option maxHeartbeats 8000000 in
theorem cw_fields7 (q : Nat) (bs : List UInt8) (F : Nat → Prop) (rb : Nat) (x : MD) (w0 w : World) (hx : x.kind = 7) (hw : WrAt w q bs F) (h0 : Below w0.heap.size w0 w) (hF : ∀ k, F k → w0.heap.size ≤ k) (hr : Blk w rb 30 (mCells x)) (hrb : ¬ F rb) (hok : MOk w0 x) (hf : FF x) (hl : bs.length + 20000000 ≤ 140737488351232) :
    Calls Try.prog 46 #[cw q, .pointer (some ⟨rb, 0, none⟩)] w (WrTo w F q (bs)) := by
  obtain ⟨W, hW⟩ := cwW w q
  have e := hW.eq
  have c0 := hW.c0
  have c1 := hW.c1
  have hFw : ¬ F w.heap.size := fun h => Nat.lt_irrefl _ (hw.bound _ h)
  have HC0 := Lib.hid (FCn.mk hW hw.bound (h0.trans (hW.below.mono h0.size)) hF (hr.below hW.below hr.lt) hrb hr.lt hFw hok hf)
  have HS0 := Lib.hid (FSt.mk HC0.out (hw.below hW.below) (Fr.refl _ _) (fun k hk => .inl hk))
  have ck : W.cell? ⟨rb, 0, none⟩ = some (.int .i64 7) := by rw [← hx]; exact HC0.out.hr.cell 0
  have HL := Lib.hid hl
  clear hw h0 hF hr hrb hok hf hl hFw hW hx
  go_enter Try.func46, Try.ntmps46
  go_wp2
  go_end0
  exact HS0.out.done (e := .returned (.tuple #[]))
set_option maxHeartbeats 8000000 in
theorem cw_fields8 (q : Nat) (bs : List UInt8) (F : Nat → Prop) (rb : Nat) (x : MD) (w0 w : World) (hx : x.kind = 8) (hw : WrAt w q bs F) (h0 : Below w0.heap.size w0 w) (hF : ∀ k, F k → w0.heap.size ≤ k) (hr : Blk w rb 30 (mCells x)) (hrb : ¬ F rb) (hok : MOk w0 x) (hf : FF x) (hl : bs.length + 20000000 ≤ 140737488351232) :
    Calls Try.prog 46 #[cw q, .pointer (some ⟨rb, 0, none⟩)] w (WrTo w F q (bs ++ (Sl.numB (x.rows.length : Int) ++ x.rows.flatMap (fun x : RwD => rwC.enc x.r)) ++ (Sl.numB (x.dirty.length : Int) ++ x.dirty.flatMap (fun x : D => dC.enc x)) ++ (Sl.numB (x.deeds.length : Int) ++ x.deeds.flatMap (fun x : DeD => deC.enc x.d)) ++ iC.enc x.past)) := by
  obtain ⟨W, hW⟩ := cwW w q
  have e := hW.eq
  have c0 := hW.c0
  have c1 := hW.c1
  have hFw : ¬ F w.heap.size := fun h => Nat.lt_irrefl _ (hw.bound _ h)
  have HC0 := Lib.hid (FCn.mk hW hw.bound (h0.trans (hW.below.mono h0.size)) hF (hr.below hW.below hr.lt) hrb hr.lt hFw hok hf)
  have HS0 := Lib.hid (FSt.mk HC0.out (hw.below hW.below) (Fr.refl _ _) (fun k hk => .inl hk))
  have ck : W.cell? ⟨rb, 0, none⟩ = some (.int .i64 8) := by rw [← hx]; exact HC0.out.hr.cell 0
  have HL := Lib.hid hl
  clear hw h0 hF hr hrb hok hf hl hFw hW hx
  go_enter Try.func46, Try.ntmps46
  have HK0 := Lib.hid (ew_row q (bs) F rb 12 x.rA x.rows.length x.rc x.rows w0 W.drew (HS0.out.wr.below (Below.refl _ _).drew) HS0.out.h0.drew HS0.out.hF (HS0.out.blk.cell 12) HS0.out.nrb HC0.out.ok.rows (by have := HC0.out.f.rlen; omega) HC0.out.f.rows (by have g1 := HL.out; omega))
  go_wp2_with fail
  go_still_tail 6, (by kernel_rfl)
  go_wp2_with fail
  refine HK0.out.mono ?_
  intro e w1 h4
  have h5 := h4.1
  obtain ⟨F1, h6⟩ := HS0.out.next (Below.refl _ _).drew h4
  have HS1 := Lib.hid h6
  clear h4 h6
  subst h5
  have hp0 : ((Sl.numB (x.rows.length : Int) ++ x.rows.flatMap (fun x : RwD => rwC.enc x.r))).length ≤ 200000 := by rw [List.length_append]; have g1 := num_le (x.rows.length : Int); have g2 := flatE_take 3000 (fun x : RwD => rwC.enc x.r) x.rows RwD.zero x.rows.length (fun j hj => len_row (HC0.out.f.rows j hj)); rw [List.take_length] at g2; have g3 := HC0.out.f.rlen; omega
  have HP0 := Lib.hid hp0
  clear hp0
  have a1 : w1.drew.cell? ⟨w.heap.size, 0, none⟩ = some (.pointer (some ⟨q, 0, none⟩)) := HS1.out.co.c0
  have b1 : w1.drew.cell? ⟨w.heap.size, 1, none⟩ = some (.pointer none) := HS1.out.co.c1
  have HK1 := Lib.hid (ew_dirty q (bs ++ (Sl.numB (x.rows.length : Int) ++ x.rows.flatMap (fun x : RwD => rwC.enc x.r))) F1 rb 13 w.heap.size x.dA x.dirty.length x.dc x.dirty w0 w1.drew (HS1.out.wr.below (Below.refl _ _).drew) HS1.out.h0.drew HS1.out.hF (HS1.out.blk.cell 13) HS1.out.nrb HC0.out.ok.dirty (by have := HC0.out.f.dlen; omega) (HS1.out.co.below (Below.refl _ _).drew) HS1.out.nco HC0.out.f.dirty (by rw [List.length_append]; have g1 := HL.out; have g5 := HP0.out; omega))
  go_wp2_with fail
  go_still_tail 5, (by kernel_rfl)
  go_wp2_with fail
  refine HK1.out.mono ?_
  intro e w2 h4
  have h5 := h4.1
  obtain ⟨F2, h6⟩ := HS1.out.next (Below.refl _ _).drew h4
  have HS2 := Lib.hid h6
  clear h4 h6
  subst h5
  have hp1 : ((Sl.numB (x.dirty.length : Int) ++ x.dirty.flatMap (fun x : D => dC.enc x))).length ≤ 2000 := by rw [List.length_append]; have g1 := num_le (x.dirty.length : Int); have g2 := flatE_take 22 (fun x : D => dC.enc x) x.dirty D.zero x.dirty.length (fun j hj => len_dirty (HC0.out.f.dirty j hj)); rw [List.take_length] at g2; have g3 := HC0.out.f.dlen; omega
  have HP1 := Lib.hid hp1
  clear hp1
  have a2 : w2.drew.cell? ⟨w.heap.size, 0, none⟩ = some (.pointer (some ⟨q, 0, none⟩)) := HS2.out.co.c0
  have b2 : w2.drew.cell? ⟨w.heap.size, 1, none⟩ = some (.pointer none) := HS2.out.co.c1
  have HK2 := Lib.hid (ew_deed q (bs ++ (Sl.numB (x.rows.length : Int) ++ x.rows.flatMap (fun x : RwD => rwC.enc x.r)) ++ (Sl.numB (x.dirty.length : Int) ++ x.dirty.flatMap (fun x : D => dC.enc x))) F2 rb 14 w.heap.size x.eA x.deeds.length x.ec x.deeds w0 w2.drew (HS2.out.wr.below (Below.refl _ _).drew) HS2.out.h0.drew HS2.out.hF (HS2.out.blk.cell 14) HS2.out.nrb HC0.out.ok.deeds (by have := HC0.out.f.elen; omega) (HS2.out.co.below (Below.refl _ _).drew) HS2.out.nco HC0.out.f.deeds (by rw [List.length_append, List.length_append]; have g1 := HL.out; have g5 := HP0.out; have g6 := HP1.out; omega))
  go_wp2_with fail
  go_still_tail 5, (by kernel_rfl)
  go_wp2_with fail
  refine HK2.out.mono ?_
  intro e w3 h4
  have h5 := h4.1
  obtain ⟨F3, h6⟩ := HS2.out.next (Below.refl _ _).drew h4
  have HS3 := Lib.hid h6
  clear h4 h6
  subst h5
  have hp2 : ((Sl.numB (x.deeds.length : Int) ++ x.deeds.flatMap (fun x : DeD => deC.enc x.d))).length ≤ 10000 := by rw [List.length_append]; have g1 := num_le (x.deeds.length : Int); have g2 := flatE_take 110 (fun x : DeD => deC.enc x.d) x.deeds DeD.zero x.deeds.length (fun j hj => len_deed (HC0.out.f.deeds j hj)); rw [List.take_length] at g2; have g3 := HC0.out.f.elen; omega
  have HP2 := Lib.hid hp2
  clear hp2
  have a3 : w3.drew.cell? ⟨w.heap.size, 0, none⟩ = some (.pointer (some ⟨q, 0, none⟩)) := HS3.out.co.c0
  have b3 : w3.drew.cell? ⟨w.heap.size, 1, none⟩ = some (.pointer none) := HS3.out.co.c1
  have HK3 := Lib.hid (cw_ints q (bs ++ (Sl.numB (x.rows.length : Int) ++ x.rows.flatMap (fun x : RwD => rwC.enc x.r)) ++ (Sl.numB (x.dirty.length : Int) ++ x.dirty.flatMap (fun x : D => dC.enc x)) ++ (Sl.numB (x.deeds.length : Int) ++ x.deeds.flatMap (fun x : DeD => deC.enc x.d))) F3 rb 15 x.pA x.past.length x.pc x.past w0 w3.drew (HS3.out.wr.below (Below.refl _ _).drew) HS3.out.h0.drew HS3.out.hF (HS3.out.blk.cell 15) HS3.out.nrb HC0.out.ok.past (by have := HC0.out.f.plen; omega) HC0.out.f.past (by rw [List.length_append, List.length_append, List.length_append]; have g1 := HL.out; have g5 := HP0.out; have g6 := HP1.out; have g7 := HP2.out; omega))
  go_wp2_with fail
  go_still_tail 4, (by kernel_rfl)
  go_wp2_with fail
  refine HK3.out.mono ?_
  intro e w4 h4
  have h5 := h4.1
  obtain ⟨F4, h6⟩ := HS3.out.next (Below.refl _ _).drew h4
  have HS4 := Lib.hid h6
  clear h4 h6
  subst h5
  go_wp2
  go_end0
  exact HS4.out.done (e := .returned (.tuple #[]))
set_option maxHeartbeats 8000000 in
theorem cw_fields9 (q : Nat) (bs : List UInt8) (F : Nat → Prop) (rb : Nat) (x : MD) (w0 w : World) (hx : x.kind = 9) (hw : WrAt w q bs F) (h0 : Below w0.heap.size w0 w) (hF : ∀ k, F k → w0.heap.size ≤ k) (hr : Blk w rb 30 (mCells x)) (hrb : ¬ F rb) (hok : MOk w0 x) (hf : FF x) (hl : bs.length + 20000000 ≤ 140737488351232) :
    Calls Try.prog 46 #[cw q, .pointer (some ⟨rb, 0, none⟩)] w (WrTo w F q (bs ++ Sl.numB x.tx ++ iC.enc x.mem)) := by
  obtain ⟨W, hW⟩ := cwW w q
  have e := hW.eq
  have c0 := hW.c0
  have c1 := hW.c1
  have hFw : ¬ F w.heap.size := fun h => Nat.lt_irrefl _ (hw.bound _ h)
  have HC0 := Lib.hid (FCn.mk hW hw.bound (h0.trans (hW.below.mono h0.size)) hF (hr.below hW.below hr.lt) hrb hr.lt hFw hok hf)
  have HS0 := Lib.hid (FSt.mk HC0.out (hw.below hW.below) (Fr.refl _ _) (fun k hk => .inl hk))
  have ck : W.cell? ⟨rb, 0, none⟩ = some (.int .i64 9) := by rw [← hx]; exact HC0.out.hr.cell 0
  have HL := Lib.hid hl
  clear hw h0 hF hr hrb hok hf hl hFw hW hx
  go_enter Try.func46, Try.ntmps46
  have HK0 := Lib.hid (cw_num q (bs) F rb 1 x.tx W.drew (HS0.out.wr.below (Below.refl _ _).drew) (HS0.out.blk.cell 1) HC0.out.f.tx (by have g1 := HL.out; omega))
  go_wp2_with fail
  go_still_tail 4, (by kernel_rfl)
  go_wp2_with fail
  refine HK0.out.mono ?_
  intro e w1 h4
  have h5 := h4.1
  obtain ⟨F1, h6⟩ := HS0.out.next (Below.refl _ _).drew h4
  have HS1 := Lib.hid h6
  clear h4 h6
  subst h5
  have hp0 : (Sl.numB x.tx).length ≤ 11 := num_le _
  have HP0 := Lib.hid hp0
  clear hp0
  have a1 : w1.drew.cell? ⟨w.heap.size, 0, none⟩ = some (.pointer (some ⟨q, 0, none⟩)) := HS1.out.co.c0
  have b1 : w1.drew.cell? ⟨w.heap.size, 1, none⟩ = some (.pointer none) := HS1.out.co.c1
  have HK1 := Lib.hid (cw_ints q (bs ++ Sl.numB x.tx) F1 rb 10 x.mA x.mem.length x.mc x.mem w0 w1.drew (HS1.out.wr.below (Below.refl _ _).drew) HS1.out.h0.drew HS1.out.hF (HS1.out.blk.cell 10) HS1.out.nrb HC0.out.ok.mem (by have := HC0.out.f.mlen; omega) HC0.out.f.mem (by rw [List.length_append]; have g1 := HL.out; have g5 := HP0.out; omega))
  go_wp2_with fail
  go_still_tail 4, (by kernel_rfl)
  go_wp2_with fail
  refine HK1.out.mono ?_
  intro e w2 h4
  have h5 := h4.1
  obtain ⟨F2, h6⟩ := HS1.out.next (Below.refl _ _).drew h4
  have HS2 := Lib.hid h6
  clear h4 h6
  subst h5
  go_wp2
  go_end0
  exact HS2.out.done (e := .returned (.tuple #[]))
set_option maxHeartbeats 8000000 in
theorem cw_fields10 (q : Nat) (bs : List UInt8) (F : Nat → Prop) (rb : Nat) (x : MD) (w0 w : World) (hx : x.kind = 10) (hw : WrAt w q bs F) (h0 : Below w0.heap.size w0 w) (hF : ∀ k, F k → w0.heap.size ≤ k) (hr : Blk w rb 30 (mCells x)) (hrb : ¬ F rb) (hok : MOk w0 x) (hf : FF x) (hl : bs.length + 20000000 ≤ 140737488351232) :
    Calls Try.prog 46 #[cw q, .pointer (some ⟨rb, 0, none⟩)] w (WrTo w F q (bs ++ Sl.numB x.tx)) := by
  obtain ⟨W, hW⟩ := cwW w q
  have e := hW.eq
  have c0 := hW.c0
  have c1 := hW.c1
  have hFw : ¬ F w.heap.size := fun h => Nat.lt_irrefl _ (hw.bound _ h)
  have HC0 := Lib.hid (FCn.mk hW hw.bound (h0.trans (hW.below.mono h0.size)) hF (hr.below hW.below hr.lt) hrb hr.lt hFw hok hf)
  have HS0 := Lib.hid (FSt.mk HC0.out (hw.below hW.below) (Fr.refl _ _) (fun k hk => .inl hk))
  have ck : W.cell? ⟨rb, 0, none⟩ = some (.int .i64 10) := by rw [← hx]; exact HC0.out.hr.cell 0
  have HL := Lib.hid hl
  clear hw h0 hF hr hrb hok hf hl hFw hW hx
  go_enter Try.func46, Try.ntmps46
  have HK0 := Lib.hid (cw_num q (bs) F rb 1 x.tx W.drew (HS0.out.wr.below (Below.refl _ _).drew) (HS0.out.blk.cell 1) HC0.out.f.tx (by have g1 := HL.out; omega))
  go_wp2_with fail
  go_still_tail 4, (by kernel_rfl)
  go_wp2_with fail
  refine HK0.out.mono ?_
  intro e w1 h4
  have h5 := h4.1
  obtain ⟨F1, h6⟩ := HS0.out.next (Below.refl _ _).drew h4
  have HS1 := Lib.hid h6
  clear h4 h6
  subst h5
  go_wp2
  go_end0
  exact HS1.out.done (e := .returned (.tuple #[]))
end Go.Proofs.Ytlijfnekopjogaa
