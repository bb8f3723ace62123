/- Whether a record may be: rec.May (printed by gen_may.py). -/
import Derived.Test.YtlijfnekopjogaaRecSpare
import Derived.Deep.MidRow
namespace Go.Proofs.Ytlijfnekopjogaa
open Go Go.RowKit Mem Rc
set_option maxRecDepth 100000
set_option linter.unusedVariables false
set_option linter.unusedSimpArgs false

theorem m_kind (x : MD) : x.m.kind = x.kind := rfl
theorem m_tx (x : MD) : x.m.tx = x.tx := rfl
theorem m_prev (x : MD) : x.m.prev = x.prev := rfl
theorem m_nxt (x : MD) : x.m.nxt = x.nxt := rfl
theorem m_key (x : MD) : x.m.key = x.key := rfl
theorem m_old (x : MD) : x.m.old = x.old := rfl
theorem m_new (x : MD) : x.m.new = x.new := rfl
theorem m_coord (x : MD) : x.m.coord = x.coord := rfl
theorem m_mem (x : MD) : x.m.mem = x.mem := rfl
theorem m_locks (x : MD) : x.m.locks = x.locks := rfl
theorem rec_load {W : World} {b : Nat} {x : MD} (h : Blk W b 30 (mCells x)) : (Instr.loadAt 30 (.pointer (some ⟨b, 0, none⟩))).run Try.prog W = .ok (mVal x) W :=
  run_loadAt_mid W b 0 30 (mCells x).toList _ (fun j v hv => by
    rw [Nat.zero_add]
    have e := h.cell j
    rw [show (mCells x)[j]? = (mCells x).toList[j]? from (Array.getElem?_toList ..).symm, hv] at e
    exact e) rfl rfl rfl
theorem wpList_load_rec {ops : Array Oper} {rest : List Oper} {op : Oper} {a : Act} {w : World} {Q : Exit → Act → World → Prop} {b : Nat} {x : MD} (ho : op.op = .load 30 (.tmp 1)) (hw : Region.wanted op (yielded ops a.tmps) = true)
    (hx : a.eval (.tmp 1) = .pointer (some ⟨b, 0, none⟩)) (hc : Blk w b 30 (mCells x)) (h : wpList Try.prog ops Q rest (a.put op.dst (mVal x)) w) : wpList Try.prog ops Q (op :: rest) a w := by
  unfold wpList
  rw [if_pos hw]
  refine .inl ?_
  unfold Oper.wp execOp
  simp only [ho, hx, Sem.run_bind, rec_load hc, Result.andThen_ok, Sem.run_pure]
  exact h
theorem cells12 {W : World} {g : Nat} {t : TypeId} {x : MD} (h : Blk W g t (mCells x)) : W.cell? ⟨g, 0, none⟩ = some (.int .i64 x.kind) ∧ W.cell? ⟨g, 1, none⟩ = some (.int .i64 x.tx) ∧ W.cell? ⟨g, 2, none⟩ = some (.int .i64 x.prev) ∧ W.cell? ⟨g, 3, none⟩ = some (.int .i64 x.nxt) ∧ W.cell? ⟨g, 4, none⟩ = some (.string x.key) ∧ W.cell? ⟨g, 5, none⟩ = some (.bool x.old.has) ∧ W.cell? ⟨g, 6, none⟩ = some (.string x.old.data) ∧ W.cell? ⟨g, 7, none⟩ = some (.bool x.new.has) ∧ W.cell? ⟨g, 8, none⟩ = some (.string x.new.data) ∧ W.cell? ⟨g, 9, none⟩ = some (.int .i64 x.coord) ∧ W.cell? ⟨g, 10, none⟩ = some (.slice x.mA x.mem.length x.mc) ∧ W.cell? ⟨g, 11, none⟩ = some (.slice x.lA x.locks.length x.lc) :=
  ⟨h.cell 0, h.cell 1, h.cell 2, h.cell 3, h.cell 4, h.cell 5, h.cell 6, h.cell 7, h.cell 8, h.cell 9, h.cell 10, h.cell 11⟩
set_option maxHeartbeats 8000000 in
theorem may_bad (x : MD) (w : World) (hx : MOk w x) (hs : Small x) (fkind : Rc.kindOk x.kind = false) : Calls Try.prog 13 #[mVal x] w fun e w' => e = .returned (.bool (Rc.may x.m)) ∧ Below w.heap.size w w' := by
  have hb : Below w.heap.size w (w.alloc (.cells (mCells x) 30)) := (Below.refl _ _).alloc (Nat.le_refl _) _
  have hx1 := hx.below hb
  have hk : ∀ W, Below (w.alloc (.cells (mCells x) 30)).heap.size (w.alloc (.cells (mCells x) 30)) W → Blk W w.heap.size 30 (mCells x) := fun W h => (Blk.new w 30 (mCells x)).below h (by simp)
  have HX := Lib.hid (And.intro hb (And.intro hx1 hs))
  have HK := Lib.hid hk
  clear hb hx hx1 hs hk
  have HV := Lib.hid (show Rc.may x.m = false by unfold Rc.may; simp [m_kind, m_tx, m_prev, m_nxt, m_key, m_old, m_new, m_coord, m_mem, m_locks, fkind])
  have Hkind := Lib.hid fkind
  have HK0 := Lib.hid fkind
  clear fkind
  have l0 := HK.out _ (Below.refl _ _)
  go_enter Try.func13, Try.ntmps13
  go_wp2_with fail
  refine (rkind_any x.kind _).mono ?_
  rw [Hkind.out]
  rintro e w' ⟨rfl, rfl⟩
  go_wp2_with fail
  go_ret
  exact ⟨by rw [HV.out]; rfl, HX.out.1⟩
set_option maxHeartbeats 8000000 in
theorem may_spare (x : MD) (w : World) (hx : MOk w x) (hs : Small x) (fkind : Rc.kindOk x.kind = true) (fspare : Rc.spare x.m = true) : Calls Try.prog 13 #[mVal x] w fun e w' => e = .returned (.bool (Rc.may x.m)) ∧ Below w.heap.size w w' := by
  have hb : Below w.heap.size w (w.alloc (.cells (mCells x) 30)) := (Below.refl _ _).alloc (Nat.le_refl _) _
  have hx1 := hx.below hb
  have hk : ∀ W, Below (w.alloc (.cells (mCells x) 30)).heap.size (w.alloc (.cells (mCells x) 30)) W → Blk W w.heap.size 30 (mCells x) := fun W h => (Blk.new w 30 (mCells x)).below h (by simp)
  have HX := Lib.hid (And.intro hb (And.intro hx1 hs))
  have HK := Lib.hid hk
  clear hb hx hx1 hs hk
  have HV := Lib.hid (show Rc.may x.m = false by unfold Rc.may Rc.rest; (try rw [fspare]); simp [m_kind, m_tx, m_prev, m_nxt, m_key, m_old, m_new, m_coord, m_mem, m_locks, fkind, fspare])
  have Hkind := Lib.hid fkind
  have Hspare := Lib.hid fspare
  have HK0 := Lib.hid fkind
  clear fkind
  clear fspare
  have l0 := HK.out _ (Below.refl _ _)
  go_enter Try.func13, Try.ntmps13
  go_wp2_with fail
  refine (rkind_any x.kind _).mono ?_
  rw [Hkind.out]
  rintro e w' ⟨rfl, rfl⟩
  go_wp2_with (refine wpList_load_rec (by rfl) (by rfl) (by rfl) (by assumption) ?_)
  refine (spare_any x HX.out.2.2 HK0.out _).mono ?_
  rw [Hspare.out]
  rintro e w1 ⟨rfl, hb1⟩
  have HB1 := Lib.hid (hb1)
  clear hb1
  go_wp2_with fail
  go_ret
  exact ⟨by rw [HV.out]; rfl, HX.out.1.trans (HB1.out.mono HX.out.1.size)⟩
set_option maxHeartbeats 8000000 in
theorem may_7t (x : MD) (w : World) (hx : MOk w x) (hs : Small x) (fkind : Rc.kindOk x.kind = true) (fspare : Rc.spare x.m = false) (fk : x.kind = 7) (ft : (x.tx == 0) = false) : Calls Try.prog 13 #[mVal x] w fun e w' => e = .returned (.bool (Rc.may x.m)) ∧ Below w.heap.size w w' := by
  have hb : Below w.heap.size w (w.alloc (.cells (mCells x) 30)) := (Below.refl _ _).alloc (Nat.le_refl _) _
  have hx1 := hx.below hb
  have hk : ∀ W, Below (w.alloc (.cells (mCells x) 30)).heap.size (w.alloc (.cells (mCells x) 30)) W → Blk W w.heap.size 30 (mCells x) := fun W h => (Blk.new w 30 (mCells x)).below h (by simp)
  have HX := Lib.hid (And.intro hb (And.intro hx1 hs))
  have HK := Lib.hid hk
  clear hb hx hx1 hs hk
  have g : ¬ x.tx = 0 := by simpa using ft
  have HV := Lib.hid (show Rc.may x.m = false by unfold Rc.may Rc.rest; (try rw [fspare]); simp [m_kind, m_tx, m_prev, m_nxt, m_key, m_old, m_new, m_coord, m_mem, m_locks, fkind, fspare, g, fk, show Rc.kindOk 7 = true from rfl])
  have Hkind := Lib.hid fkind
  have Hspare := Lib.hid fspare
  have HK0 := Lib.hid fkind
  clear fkind
  clear fspare
  clear g
  have FK := Lib.hid fk
  clear fk
  have l0 := HK.out _ (Below.refl _ _)
  go_enter Try.func13, Try.ntmps13
  go_wp2_with fail
  refine (rkind_any x.kind _).mono ?_
  rw [Hkind.out]
  rintro e w' ⟨rfl, rfl⟩
  go_wp2_with (refine wpList_load_rec (by rfl) (by rfl) (by rfl) (by assumption) ?_)
  refine (spare_any x HX.out.2.2 HK0.out _).mono ?_
  rw [Hspare.out]
  rintro e w1 ⟨rfl, hb1⟩
  have HB1 := Lib.hid (hb1)
  have l1 := HK.out w1 HB1.out
  obtain ⟨c1_0, c1_1, c1_2, c1_3, c1_4, c1_5, c1_6, c1_7, c1_8, c1_9, c1_10, c1_11⟩ := cells12 (HK.out w1 HB1.out)
  rw [FK.out] at c1_0
  clear hb1
  go_wp2_with fail
  go_ret
  exact ⟨by rw [HV.out]; rfl, HX.out.1.trans (HB1.out.mono HX.out.1.size)⟩
set_option maxHeartbeats 8000000 in
theorem may_7 (x : MD) (w : World) (hx : MOk w x) (hs : Small x) (fkind : Rc.kindOk x.kind = true) (fspare : Rc.spare x.m = false) (fk : x.kind = 7) (ft : (x.tx == 0) = true) : Calls Try.prog 13 #[mVal x] w fun e w' => e = .returned (.bool (Rc.may x.m)) ∧ Below w.heap.size w w' := by
  have hb : Below w.heap.size w (w.alloc (.cells (mCells x) 30)) := (Below.refl _ _).alloc (Nat.le_refl _) _
  have hx1 := hx.below hb
  have hk : ∀ W, Below (w.alloc (.cells (mCells x) 30)).heap.size (w.alloc (.cells (mCells x) 30)) W → Blk W w.heap.size 30 (mCells x) := fun W h => (Blk.new w 30 (mCells x)).below h (by simp)
  have HX := Lib.hid (And.intro hb (And.intro hx1 hs))
  have HK := Lib.hid hk
  clear hb hx hx1 hs hk
  have g : x.tx = 0 := by simpa using ft
  have HV := Lib.hid (show Rc.may x.m = Rc.check x.m by unfold Rc.may Rc.rest; (try rw [fspare]); simp [m_kind, m_tx, m_prev, m_nxt, m_key, m_old, m_new, m_coord, m_mem, m_locks, fkind, fspare, g, fk, show Rc.kindOk 7 = true from rfl])
  have Hkind := Lib.hid fkind
  have Hspare := Lib.hid fspare
  have HK0 := Lib.hid fkind
  clear fkind
  clear fspare
  clear g
  have FK := Lib.hid fk
  clear fk
  have l0 := HK.out _ (Below.refl _ _)
  go_enter Try.func13, Try.ntmps13
  go_wp2_with fail
  refine (rkind_any x.kind _).mono ?_
  rw [Hkind.out]
  rintro e w' ⟨rfl, rfl⟩
  go_wp2_with (refine wpList_load_rec (by rfl) (by rfl) (by rfl) (by assumption) ?_)
  refine (spare_any x HX.out.2.2 HK0.out _).mono ?_
  rw [Hspare.out]
  rintro e w1 ⟨rfl, hb1⟩
  have HB1 := Lib.hid (hb1)
  have l1 := HK.out w1 HB1.out
  obtain ⟨c1_0, c1_1, c1_2, c1_3, c1_4, c1_5, c1_6, c1_7, c1_8, c1_9, c1_10, c1_11⟩ := cells12 (HK.out w1 HB1.out)
  rw [FK.out] at c1_0
  clear hb1
  go_wp2_with (refine wpList_load_rec (by rfl) (by rfl) (by rfl) (by assumption) ?_)
  refine (rcheck_any x _ (HX.out.2.1.below HB1.out) HX.out.2.2).mono ?_
  rintro e w2 ⟨rfl, hb2⟩
  have HB2 := Lib.hid (HB1.out.trans (hb2.mono HB1.out.size))
  clear hb2
  go_wp2_with fail
  go_ret
  exact ⟨by rw [HV.out]; rfl, HX.out.1.trans (HB2.out.mono HX.out.1.size)⟩
set_option maxHeartbeats 8000000 in
theorem may_8t (x : MD) (w : World) (hx : MOk w x) (hs : Small x) (fkind : Rc.kindOk x.kind = true) (fspare : Rc.spare x.m = false) (fk : x.kind = 8) (ft : (x.tx == 0) = false) : Calls Try.prog 13 #[mVal x] w fun e w' => e = .returned (.bool (Rc.may x.m)) ∧ Below w.heap.size w w' := by
  have hb : Below w.heap.size w (w.alloc (.cells (mCells x) 30)) := (Below.refl _ _).alloc (Nat.le_refl _) _
  have hx1 := hx.below hb
  have hk : ∀ W, Below (w.alloc (.cells (mCells x) 30)).heap.size (w.alloc (.cells (mCells x) 30)) W → Blk W w.heap.size 30 (mCells x) := fun W h => (Blk.new w 30 (mCells x)).below h (by simp)
  have HX := Lib.hid (And.intro hb (And.intro hx1 hs))
  have HK := Lib.hid hk
  clear hb hx hx1 hs hk
  have g : ¬ x.tx = 0 := by simpa using ft
  have HV := Lib.hid (show Rc.may x.m = false by unfold Rc.may Rc.rest; (try rw [fspare]); simp [m_kind, m_tx, m_prev, m_nxt, m_key, m_old, m_new, m_coord, m_mem, m_locks, fkind, fspare, g, fk, show Rc.kindOk 8 = true from rfl])
  have Hkind := Lib.hid fkind
  have Hspare := Lib.hid fspare
  have HK0 := Lib.hid fkind
  clear fkind
  clear fspare
  clear g
  have FK := Lib.hid fk
  clear fk
  have l0 := HK.out _ (Below.refl _ _)
  go_enter Try.func13, Try.ntmps13
  go_wp2_with fail
  refine (rkind_any x.kind _).mono ?_
  rw [Hkind.out]
  rintro e w' ⟨rfl, rfl⟩
  go_wp2_with (refine wpList_load_rec (by rfl) (by rfl) (by rfl) (by assumption) ?_)
  refine (spare_any x HX.out.2.2 HK0.out _).mono ?_
  rw [Hspare.out]
  rintro e w1 ⟨rfl, hb1⟩
  have HB1 := Lib.hid (hb1)
  have l1 := HK.out w1 HB1.out
  obtain ⟨c1_0, c1_1, c1_2, c1_3, c1_4, c1_5, c1_6, c1_7, c1_8, c1_9, c1_10, c1_11⟩ := cells12 (HK.out w1 HB1.out)
  rw [FK.out] at c1_0
  clear hb1
  go_wp2_with fail
  go_ret
  exact ⟨by rw [HV.out]; rfl, HX.out.1.trans (HB1.out.mono HX.out.1.size)⟩
set_option maxHeartbeats 8000000 in
theorem may_8 (x : MD) (w : World) (hx : MOk w x) (hs : Small x) (fkind : Rc.kindOk x.kind = true) (fspare : Rc.spare x.m = false) (fk : x.kind = 8) (ft : (x.tx == 0) = true) : Calls Try.prog 13 #[mVal x] w fun e w' => e = .returned (.bool (Rc.may x.m)) ∧ Below w.heap.size w w' := by
  have hb : Below w.heap.size w (w.alloc (.cells (mCells x) 30)) := (Below.refl _ _).alloc (Nat.le_refl _) _
  have hx1 := hx.below hb
  have hk : ∀ W, Below (w.alloc (.cells (mCells x) 30)).heap.size (w.alloc (.cells (mCells x) 30)) W → Blk W w.heap.size 30 (mCells x) := fun W h => (Blk.new w 30 (mCells x)).below h (by simp)
  have HX := Lib.hid (And.intro hb (And.intro hx1 hs))
  have HK := Lib.hid hk
  clear hb hx hx1 hs hk
  have g : x.tx = 0 := by simpa using ft
  have HV := Lib.hid (show Rc.may x.m = Rc.check x.m by unfold Rc.may Rc.rest; (try rw [fspare]); simp [m_kind, m_tx, m_prev, m_nxt, m_key, m_old, m_new, m_coord, m_mem, m_locks, fkind, fspare, g, fk, show Rc.kindOk 8 = true from rfl])
  have Hkind := Lib.hid fkind
  have Hspare := Lib.hid fspare
  have HK0 := Lib.hid fkind
  clear fkind
  clear fspare
  clear g
  have FK := Lib.hid fk
  clear fk
  have l0 := HK.out _ (Below.refl _ _)
  go_enter Try.func13, Try.ntmps13
  go_wp2_with fail
  refine (rkind_any x.kind _).mono ?_
  rw [Hkind.out]
  rintro e w' ⟨rfl, rfl⟩
  go_wp2_with (refine wpList_load_rec (by rfl) (by rfl) (by rfl) (by assumption) ?_)
  refine (spare_any x HX.out.2.2 HK0.out _).mono ?_
  rw [Hspare.out]
  rintro e w1 ⟨rfl, hb1⟩
  have HB1 := Lib.hid (hb1)
  have l1 := HK.out w1 HB1.out
  obtain ⟨c1_0, c1_1, c1_2, c1_3, c1_4, c1_5, c1_6, c1_7, c1_8, c1_9, c1_10, c1_11⟩ := cells12 (HK.out w1 HB1.out)
  rw [FK.out] at c1_0
  clear hb1
  go_wp2_with (refine wpList_load_rec (by rfl) (by rfl) (by rfl) (by assumption) ?_)
  refine (rcheck_any x _ (HX.out.2.1.below HB1.out) HX.out.2.2).mono ?_
  rintro e w2 ⟨rfl, hb2⟩
  have HB2 := Lib.hid (HB1.out.trans (hb2.mono HB1.out.size))
  clear hb2
  go_wp2_with fail
  go_ret
  exact ⟨by rw [HV.out]; rfl, HX.out.1.trans (HB2.out.mono HX.out.1.size)⟩
set_option maxHeartbeats 8000000 in
theorem may_1 (x : MD) (w : World) (hx : MOk w x) (hs : Small x) (fkind : Rc.kindOk x.kind = true) (fspare : Rc.spare x.m = false) (fk : x.kind = 1) : Calls Try.prog 13 #[mVal x] w fun e w' => e = .returned (.bool (Rc.may x.m)) ∧ Below w.heap.size w w' := by
  have hb : Below w.heap.size w (w.alloc (.cells (mCells x) 30)) := (Below.refl _ _).alloc (Nat.le_refl _) _
  have hx1 := hx.below hb
  have hk : ∀ W, Below (w.alloc (.cells (mCells x) 30)).heap.size (w.alloc (.cells (mCells x) 30)) W → Blk W w.heap.size 30 (mCells x) := fun W h => (Blk.new w 30 (mCells x)).below h (by simp)
  have HX := Lib.hid (And.intro hb (And.intro hx1 hs))
  have HK := Lib.hid hk
  clear hb hx hx1 hs hk
  cases fkey : Rc.keyOk x.key with
  | false =>
    have HV := Lib.hid (show Rc.may x.m = false by unfold Rc.may Rc.rest; (try rw [fspare]); simp [m_kind, m_tx, m_prev, m_nxt, m_key, m_old, m_new, m_coord, m_mem, m_locks, fkind, fspare, fkey, fk, show Rc.kindOk 1 = true from rfl])
    have Hkind := Lib.hid fkind
    have Hspare := Lib.hid fspare
    have Hkey := Lib.hid fkey
    have HK0 := Lib.hid fkind
    clear fkind
    clear fspare
    clear fkey
    have FK := Lib.hid fk
    clear fk
    have l0 := HK.out _ (Below.refl _ _)
    go_enter Try.func13, Try.ntmps13
    go_wp2_with fail
    refine (rkind_any x.kind _).mono ?_
    rw [Hkind.out]
    rintro e w' ⟨rfl, rfl⟩
    go_wp2_with (refine wpList_load_rec (by rfl) (by rfl) (by rfl) (by assumption) ?_)
    refine (spare_any x HX.out.2.2 HK0.out _).mono ?_
    rw [Hspare.out]
    rintro e w1 ⟨rfl, hb1⟩
    have HB1 := Lib.hid (hb1)
    have l1 := HK.out w1 HB1.out
    obtain ⟨c1_0, c1_1, c1_2, c1_3, c1_4, c1_5, c1_6, c1_7, c1_8, c1_9, c1_10, c1_11⟩ := cells12 (HK.out w1 HB1.out)
    rw [FK.out] at c1_0
    clear hb1
    go_wp2_with fail
    refine (rkey_any x.key _).mono ?_
    rw [Hkey.out]
    rintro e w' ⟨rfl, rfl⟩
    go_wp2_with fail
    go_ret
    exact ⟨by rw [HV.out]; rfl, HX.out.1.trans (HB1.out.mono HX.out.1.size)⟩
  | true =>
    cases fold : Rc.valOk x.old with
    | false =>
      have HV := Lib.hid (show Rc.may x.m = false by unfold Rc.may Rc.rest; (try rw [fspare]); simp [m_kind, m_tx, m_prev, m_nxt, m_key, m_old, m_new, m_coord, m_mem, m_locks, fkind, fspare, fkey, fold, fk, show Rc.kindOk 1 = true from rfl])
      have Hkind := Lib.hid fkind
      have Hspare := Lib.hid fspare
      have Hkey := Lib.hid fkey
      have Hold := Lib.hid fold
      have HK0 := Lib.hid fkind
      clear fkind
      clear fspare
      clear fkey
      clear fold
      have FK := Lib.hid fk
      clear fk
      have l0 := HK.out _ (Below.refl _ _)
      go_enter Try.func13, Try.ntmps13
      go_wp2_with fail
      refine (rkind_any x.kind _).mono ?_
      rw [Hkind.out]
      rintro e w' ⟨rfl, rfl⟩
      go_wp2_with (refine wpList_load_rec (by rfl) (by rfl) (by rfl) (by assumption) ?_)
      refine (spare_any x HX.out.2.2 HK0.out _).mono ?_
      rw [Hspare.out]
      rintro e w1 ⟨rfl, hb1⟩
      have HB1 := Lib.hid (hb1)
      have l1 := HK.out w1 HB1.out
      obtain ⟨c1_0, c1_1, c1_2, c1_3, c1_4, c1_5, c1_6, c1_7, c1_8, c1_9, c1_10, c1_11⟩ := cells12 (HK.out w1 HB1.out)
      rw [FK.out] at c1_0
      clear hb1
      go_wp2_with fail
      refine (rkey_any x.key _).mono ?_
      rw [Hkey.out]
      rintro e w' ⟨rfl, rfl⟩
      go_wp2_with fail
      refine (rvalue_any x.old _).mono ?_
      rw [Hold.out]
      rintro e w2 ⟨rfl, hb2⟩
      have HB2 := Lib.hid (HB1.out.trans (hb2.mono HB1.out.size))
      clear hb2
      go_wp2_with fail
      go_ret
      exact ⟨by rw [HV.out]; rfl, HX.out.1.trans (HB2.out.mono HX.out.1.size)⟩
    | true =>
      cases fnew : Rc.valOk x.new with
      | false =>
        have HV := Lib.hid (show Rc.may x.m = false by unfold Rc.may Rc.rest; (try rw [fspare]); simp [m_kind, m_tx, m_prev, m_nxt, m_key, m_old, m_new, m_coord, m_mem, m_locks, fkind, fspare, fkey, fold, fnew, fk, show Rc.kindOk 1 = true from rfl])
        have Hkind := Lib.hid fkind
        have Hspare := Lib.hid fspare
        have Hkey := Lib.hid fkey
        have Hold := Lib.hid fold
        have Hnew := Lib.hid fnew
        have HK0 := Lib.hid fkind
        clear fkind
        clear fspare
        clear fkey
        clear fold
        clear fnew
        have FK := Lib.hid fk
        clear fk
        have l0 := HK.out _ (Below.refl _ _)
        go_enter Try.func13, Try.ntmps13
        go_wp2_with fail
        refine (rkind_any x.kind _).mono ?_
        rw [Hkind.out]
        rintro e w' ⟨rfl, rfl⟩
        go_wp2_with (refine wpList_load_rec (by rfl) (by rfl) (by rfl) (by assumption) ?_)
        refine (spare_any x HX.out.2.2 HK0.out _).mono ?_
        rw [Hspare.out]
        rintro e w1 ⟨rfl, hb1⟩
        have HB1 := Lib.hid (hb1)
        have l1 := HK.out w1 HB1.out
        obtain ⟨c1_0, c1_1, c1_2, c1_3, c1_4, c1_5, c1_6, c1_7, c1_8, c1_9, c1_10, c1_11⟩ := cells12 (HK.out w1 HB1.out)
        rw [FK.out] at c1_0
        clear hb1
        go_wp2_with fail
        refine (rkey_any x.key _).mono ?_
        rw [Hkey.out]
        rintro e w' ⟨rfl, rfl⟩
        go_wp2_with fail
        refine (rvalue_any x.old _).mono ?_
        rw [Hold.out]
        rintro e w2 ⟨rfl, hb2⟩
        have HB2 := Lib.hid (HB1.out.trans (hb2.mono HB1.out.size))
        have l2 := HK.out w2 HB2.out
        obtain ⟨c2_0, c2_1, c2_2, c2_3, c2_4, c2_5, c2_6, c2_7, c2_8, c2_9, c2_10, c2_11⟩ := cells12 (HK.out w2 HB2.out)
        rw [FK.out] at c2_0
        clear hb2
        go_wp2_with fail
        refine (rvalue_any x.new _).mono ?_
        rw [Hnew.out]
        rintro e w3 ⟨rfl, hb3⟩
        have HB3 := Lib.hid (HB2.out.trans (hb3.mono HB2.out.size))
        clear hb3
        go_wp2_with fail
        go_ret
        exact ⟨by rw [HV.out]; rfl, HX.out.1.trans (HB3.out.mono HX.out.1.size)⟩
      | true =>
        cases ftx : seq x.tx 1 with
        | false =>
          have HV := Lib.hid (show Rc.may x.m = false by unfold Rc.may Rc.rest; (try rw [fspare]); simp [m_kind, m_tx, m_prev, m_nxt, m_key, m_old, m_new, m_coord, m_mem, m_locks, fkind, fspare, fkey, fold, fnew, ftx, fk, show Rc.kindOk 1 = true from rfl])
          have Hkind := Lib.hid fkind
          have Hspare := Lib.hid fspare
          have Hkey := Lib.hid fkey
          have Hold := Lib.hid fold
          have Hnew := Lib.hid fnew
          have Htx := Lib.hid ftx
          have HK0 := Lib.hid fkind
          clear fkind
          clear fspare
          clear fkey
          clear fold
          clear fnew
          clear ftx
          have FK := Lib.hid fk
          clear fk
          have l0 := HK.out _ (Below.refl _ _)
          go_enter Try.func13, Try.ntmps13
          go_wp2_with fail
          refine (rkind_any x.kind _).mono ?_
          rw [Hkind.out]
          rintro e w' ⟨rfl, rfl⟩
          go_wp2_with (refine wpList_load_rec (by rfl) (by rfl) (by rfl) (by assumption) ?_)
          refine (spare_any x HX.out.2.2 HK0.out _).mono ?_
          rw [Hspare.out]
          rintro e w1 ⟨rfl, hb1⟩
          have HB1 := Lib.hid (hb1)
          have l1 := HK.out w1 HB1.out
          obtain ⟨c1_0, c1_1, c1_2, c1_3, c1_4, c1_5, c1_6, c1_7, c1_8, c1_9, c1_10, c1_11⟩ := cells12 (HK.out w1 HB1.out)
          rw [FK.out] at c1_0
          clear hb1
          go_wp2_with fail
          refine (rkey_any x.key _).mono ?_
          rw [Hkey.out]
          rintro e w' ⟨rfl, rfl⟩
          go_wp2_with fail
          refine (rvalue_any x.old _).mono ?_
          rw [Hold.out]
          rintro e w2 ⟨rfl, hb2⟩
          have HB2 := Lib.hid (HB1.out.trans (hb2.mono HB1.out.size))
          have l2 := HK.out w2 HB2.out
          obtain ⟨c2_0, c2_1, c2_2, c2_3, c2_4, c2_5, c2_6, c2_7, c2_8, c2_9, c2_10, c2_11⟩ := cells12 (HK.out w2 HB2.out)
          rw [FK.out] at c2_0
          clear hb2
          go_wp2_with fail
          refine (rvalue_any x.new _).mono ?_
          rw [Hnew.out]
          rintro e w3 ⟨rfl, hb3⟩
          have HB3 := Lib.hid (HB2.out.trans (hb3.mono HB2.out.size))
          have l3 := HK.out w3 HB3.out
          obtain ⟨c3_0, c3_1, c3_2, c3_3, c3_4, c3_5, c3_6, c3_7, c3_8, c3_9, c3_10, c3_11⟩ := cells12 (HK.out w3 HB3.out)
          rw [FK.out] at c3_0
          clear hb3
          go_wp2_with fail
          refine (rseq_any x.tx 1 _).mono ?_
          rw [Htx.out]
          rintro e w' ⟨rfl, rfl⟩
          go_wp2_with fail
          go_ret
          exact ⟨by rw [HV.out]; rfl, HX.out.1.trans (HB3.out.mono HX.out.1.size)⟩
        | true =>
          cases fprev : seq x.prev 0 with
          | false =>
            have HV := Lib.hid (show Rc.may x.m = false by unfold Rc.may Rc.rest; (try rw [fspare]); simp [m_kind, m_tx, m_prev, m_nxt, m_key, m_old, m_new, m_coord, m_mem, m_locks, fkind, fspare, fkey, fold, fnew, ftx, fprev, fk, show Rc.kindOk 1 = true from rfl])
            have Hkind := Lib.hid fkind
            have Hspare := Lib.hid fspare
            have Hkey := Lib.hid fkey
            have Hold := Lib.hid fold
            have Hnew := Lib.hid fnew
            have Htx := Lib.hid ftx
            have Hprev := Lib.hid fprev
            have HK0 := Lib.hid fkind
            clear fkind
            clear fspare
            clear fkey
            clear fold
            clear fnew
            clear ftx
            clear fprev
            have FK := Lib.hid fk
            clear fk
            have l0 := HK.out _ (Below.refl _ _)
            go_enter Try.func13, Try.ntmps13
            go_wp2_with fail
            refine (rkind_any x.kind _).mono ?_
            rw [Hkind.out]
            rintro e w' ⟨rfl, rfl⟩
            go_wp2_with (refine wpList_load_rec (by rfl) (by rfl) (by rfl) (by assumption) ?_)
            refine (spare_any x HX.out.2.2 HK0.out _).mono ?_
            rw [Hspare.out]
            rintro e w1 ⟨rfl, hb1⟩
            have HB1 := Lib.hid (hb1)
            have l1 := HK.out w1 HB1.out
            obtain ⟨c1_0, c1_1, c1_2, c1_3, c1_4, c1_5, c1_6, c1_7, c1_8, c1_9, c1_10, c1_11⟩ := cells12 (HK.out w1 HB1.out)
            rw [FK.out] at c1_0
            clear hb1
            go_wp2_with fail
            refine (rkey_any x.key _).mono ?_
            rw [Hkey.out]
            rintro e w' ⟨rfl, rfl⟩
            go_wp2_with fail
            refine (rvalue_any x.old _).mono ?_
            rw [Hold.out]
            rintro e w2 ⟨rfl, hb2⟩
            have HB2 := Lib.hid (HB1.out.trans (hb2.mono HB1.out.size))
            have l2 := HK.out w2 HB2.out
            obtain ⟨c2_0, c2_1, c2_2, c2_3, c2_4, c2_5, c2_6, c2_7, c2_8, c2_9, c2_10, c2_11⟩ := cells12 (HK.out w2 HB2.out)
            rw [FK.out] at c2_0
            clear hb2
            go_wp2_with fail
            refine (rvalue_any x.new _).mono ?_
            rw [Hnew.out]
            rintro e w3 ⟨rfl, hb3⟩
            have HB3 := Lib.hid (HB2.out.trans (hb3.mono HB2.out.size))
            have l3 := HK.out w3 HB3.out
            obtain ⟨c3_0, c3_1, c3_2, c3_3, c3_4, c3_5, c3_6, c3_7, c3_8, c3_9, c3_10, c3_11⟩ := cells12 (HK.out w3 HB3.out)
            rw [FK.out] at c3_0
            clear hb3
            go_wp2_with fail
            refine (rseq_any x.tx 1 _).mono ?_
            rw [Htx.out]
            rintro e w' ⟨rfl, rfl⟩
            go_wp2_with fail
            refine (rseq_any x.prev 0 _).mono ?_
            rw [Hprev.out]
            rintro e w' ⟨rfl, rfl⟩
            go_wp2_with fail
            go_ret
            exact ⟨by rw [HV.out]; rfl, HX.out.1.trans (HB3.out.mono HX.out.1.size)⟩
          | true =>
            cases fnxt : seq x.nxt 0 with
            | false =>
              have HV := Lib.hid (show Rc.may x.m = false by unfold Rc.may Rc.rest; (try rw [fspare]); simp [m_kind, m_tx, m_prev, m_nxt, m_key, m_old, m_new, m_coord, m_mem, m_locks, fkind, fspare, fkey, fold, fnew, ftx, fprev, fnxt, fk, show Rc.kindOk 1 = true from rfl])
              have Hkind := Lib.hid fkind
              have Hspare := Lib.hid fspare
              have Hkey := Lib.hid fkey
              have Hold := Lib.hid fold
              have Hnew := Lib.hid fnew
              have Htx := Lib.hid ftx
              have Hprev := Lib.hid fprev
              have Hnxt := Lib.hid fnxt
              have HK0 := Lib.hid fkind
              clear fkind
              clear fspare
              clear fkey
              clear fold
              clear fnew
              clear ftx
              clear fprev
              clear fnxt
              have FK := Lib.hid fk
              clear fk
              have l0 := HK.out _ (Below.refl _ _)
              go_enter Try.func13, Try.ntmps13
              go_wp2_with fail
              refine (rkind_any x.kind _).mono ?_
              rw [Hkind.out]
              rintro e w' ⟨rfl, rfl⟩
              go_wp2_with (refine wpList_load_rec (by rfl) (by rfl) (by rfl) (by assumption) ?_)
              refine (spare_any x HX.out.2.2 HK0.out _).mono ?_
              rw [Hspare.out]
              rintro e w1 ⟨rfl, hb1⟩
              have HB1 := Lib.hid (hb1)
              have l1 := HK.out w1 HB1.out
              obtain ⟨c1_0, c1_1, c1_2, c1_3, c1_4, c1_5, c1_6, c1_7, c1_8, c1_9, c1_10, c1_11⟩ := cells12 (HK.out w1 HB1.out)
              rw [FK.out] at c1_0
              clear hb1
              go_wp2_with fail
              refine (rkey_any x.key _).mono ?_
              rw [Hkey.out]
              rintro e w' ⟨rfl, rfl⟩
              go_wp2_with fail
              refine (rvalue_any x.old _).mono ?_
              rw [Hold.out]
              rintro e w2 ⟨rfl, hb2⟩
              have HB2 := Lib.hid (HB1.out.trans (hb2.mono HB1.out.size))
              have l2 := HK.out w2 HB2.out
              obtain ⟨c2_0, c2_1, c2_2, c2_3, c2_4, c2_5, c2_6, c2_7, c2_8, c2_9, c2_10, c2_11⟩ := cells12 (HK.out w2 HB2.out)
              rw [FK.out] at c2_0
              clear hb2
              go_wp2_with fail
              refine (rvalue_any x.new _).mono ?_
              rw [Hnew.out]
              rintro e w3 ⟨rfl, hb3⟩
              have HB3 := Lib.hid (HB2.out.trans (hb3.mono HB2.out.size))
              have l3 := HK.out w3 HB3.out
              obtain ⟨c3_0, c3_1, c3_2, c3_3, c3_4, c3_5, c3_6, c3_7, c3_8, c3_9, c3_10, c3_11⟩ := cells12 (HK.out w3 HB3.out)
              rw [FK.out] at c3_0
              clear hb3
              go_wp2_with fail
              refine (rseq_any x.tx 1 _).mono ?_
              rw [Htx.out]
              rintro e w' ⟨rfl, rfl⟩
              go_wp2_with fail
              refine (rseq_any x.prev 0 _).mono ?_
              rw [Hprev.out]
              rintro e w' ⟨rfl, rfl⟩
              go_wp2_with fail
              refine (rseq_any x.nxt 0 _).mono ?_
              rw [Hnxt.out]
              rintro e w' ⟨rfl, rfl⟩
              go_wp2_with fail
              go_ret
              exact ⟨by rw [HV.out]; rfl, HX.out.1.trans (HB3.out.mono HX.out.1.size)⟩
            | true =>
              cases fcoord : node x.coord with
              | false =>
                have HV := Lib.hid (show Rc.may x.m = false by unfold Rc.may Rc.rest; (try rw [fspare]); simp [m_kind, m_tx, m_prev, m_nxt, m_key, m_old, m_new, m_coord, m_mem, m_locks, fkind, fspare, fkey, fold, fnew, ftx, fprev, fnxt, fcoord, fk, show Rc.kindOk 1 = true from rfl])
                have Hkind := Lib.hid fkind
                have Hspare := Lib.hid fspare
                have Hkey := Lib.hid fkey
                have Hold := Lib.hid fold
                have Hnew := Lib.hid fnew
                have Htx := Lib.hid ftx
                have Hprev := Lib.hid fprev
                have Hnxt := Lib.hid fnxt
                have Hcoord := Lib.hid fcoord
                have HK0 := Lib.hid fkind
                clear fkind
                clear fspare
                clear fkey
                clear fold
                clear fnew
                clear ftx
                clear fprev
                clear fnxt
                clear fcoord
                have FK := Lib.hid fk
                clear fk
                have l0 := HK.out _ (Below.refl _ _)
                go_enter Try.func13, Try.ntmps13
                go_wp2_with fail
                refine (rkind_any x.kind _).mono ?_
                rw [Hkind.out]
                rintro e w' ⟨rfl, rfl⟩
                go_wp2_with (refine wpList_load_rec (by rfl) (by rfl) (by rfl) (by assumption) ?_)
                refine (spare_any x HX.out.2.2 HK0.out _).mono ?_
                rw [Hspare.out]
                rintro e w1 ⟨rfl, hb1⟩
                have HB1 := Lib.hid (hb1)
                have l1 := HK.out w1 HB1.out
                obtain ⟨c1_0, c1_1, c1_2, c1_3, c1_4, c1_5, c1_6, c1_7, c1_8, c1_9, c1_10, c1_11⟩ := cells12 (HK.out w1 HB1.out)
                rw [FK.out] at c1_0
                clear hb1
                go_wp2_with fail
                refine (rkey_any x.key _).mono ?_
                rw [Hkey.out]
                rintro e w' ⟨rfl, rfl⟩
                go_wp2_with fail
                refine (rvalue_any x.old _).mono ?_
                rw [Hold.out]
                rintro e w2 ⟨rfl, hb2⟩
                have HB2 := Lib.hid (HB1.out.trans (hb2.mono HB1.out.size))
                have l2 := HK.out w2 HB2.out
                obtain ⟨c2_0, c2_1, c2_2, c2_3, c2_4, c2_5, c2_6, c2_7, c2_8, c2_9, c2_10, c2_11⟩ := cells12 (HK.out w2 HB2.out)
                rw [FK.out] at c2_0
                clear hb2
                go_wp2_with fail
                refine (rvalue_any x.new _).mono ?_
                rw [Hnew.out]
                rintro e w3 ⟨rfl, hb3⟩
                have HB3 := Lib.hid (HB2.out.trans (hb3.mono HB2.out.size))
                have l3 := HK.out w3 HB3.out
                obtain ⟨c3_0, c3_1, c3_2, c3_3, c3_4, c3_5, c3_6, c3_7, c3_8, c3_9, c3_10, c3_11⟩ := cells12 (HK.out w3 HB3.out)
                rw [FK.out] at c3_0
                clear hb3
                go_wp2_with fail
                refine (rseq_any x.tx 1 _).mono ?_
                rw [Htx.out]
                rintro e w' ⟨rfl, rfl⟩
                go_wp2_with fail
                refine (rseq_any x.prev 0 _).mono ?_
                rw [Hprev.out]
                rintro e w' ⟨rfl, rfl⟩
                go_wp2_with fail
                refine (rseq_any x.nxt 0 _).mono ?_
                rw [Hnxt.out]
                rintro e w' ⟨rfl, rfl⟩
                go_wp2_with fail
                refine (rnode_any x.coord _).mono ?_
                rw [Hcoord.out]
                rintro e w' ⟨rfl, rfl⟩
                go_wp2_with fail
                go_ret
                exact ⟨by rw [HV.out]; rfl, HX.out.1.trans (HB3.out.mono HX.out.1.size)⟩
              | true =>
                cases fmem : members x.mem with
                | false =>
                  have HV := Lib.hid (show Rc.may x.m = false by unfold Rc.may Rc.rest; (try rw [fspare]); simp [m_kind, m_tx, m_prev, m_nxt, m_key, m_old, m_new, m_coord, m_mem, m_locks, fkind, fspare, fkey, fold, fnew, ftx, fprev, fnxt, fcoord, fmem, fk, show Rc.kindOk 1 = true from rfl])
                  have Hkind := Lib.hid fkind
                  have Hspare := Lib.hid fspare
                  have Hkey := Lib.hid fkey
                  have Hold := Lib.hid fold
                  have Hnew := Lib.hid fnew
                  have Htx := Lib.hid ftx
                  have Hprev := Lib.hid fprev
                  have Hnxt := Lib.hid fnxt
                  have Hcoord := Lib.hid fcoord
                  have Hmem := Lib.hid fmem
                  have HK0 := Lib.hid fkind
                  clear fkind
                  clear fspare
                  clear fkey
                  clear fold
                  clear fnew
                  clear ftx
                  clear fprev
                  clear fnxt
                  clear fcoord
                  clear fmem
                  have FK := Lib.hid fk
                  clear fk
                  have l0 := HK.out _ (Below.refl _ _)
                  go_enter Try.func13, Try.ntmps13
                  go_wp2_with fail
                  refine (rkind_any x.kind _).mono ?_
                  rw [Hkind.out]
                  rintro e w' ⟨rfl, rfl⟩
                  go_wp2_with (refine wpList_load_rec (by rfl) (by rfl) (by rfl) (by assumption) ?_)
                  refine (spare_any x HX.out.2.2 HK0.out _).mono ?_
                  rw [Hspare.out]
                  rintro e w1 ⟨rfl, hb1⟩
                  have HB1 := Lib.hid (hb1)
                  have l1 := HK.out w1 HB1.out
                  obtain ⟨c1_0, c1_1, c1_2, c1_3, c1_4, c1_5, c1_6, c1_7, c1_8, c1_9, c1_10, c1_11⟩ := cells12 (HK.out w1 HB1.out)
                  rw [FK.out] at c1_0
                  clear hb1
                  go_wp2_with fail
                  refine (rkey_any x.key _).mono ?_
                  rw [Hkey.out]
                  rintro e w' ⟨rfl, rfl⟩
                  go_wp2_with fail
                  refine (rvalue_any x.old _).mono ?_
                  rw [Hold.out]
                  rintro e w2 ⟨rfl, hb2⟩
                  have HB2 := Lib.hid (HB1.out.trans (hb2.mono HB1.out.size))
                  have l2 := HK.out w2 HB2.out
                  obtain ⟨c2_0, c2_1, c2_2, c2_3, c2_4, c2_5, c2_6, c2_7, c2_8, c2_9, c2_10, c2_11⟩ := cells12 (HK.out w2 HB2.out)
                  rw [FK.out] at c2_0
                  clear hb2
                  go_wp2_with fail
                  refine (rvalue_any x.new _).mono ?_
                  rw [Hnew.out]
                  rintro e w3 ⟨rfl, hb3⟩
                  have HB3 := Lib.hid (HB2.out.trans (hb3.mono HB2.out.size))
                  have l3 := HK.out w3 HB3.out
                  obtain ⟨c3_0, c3_1, c3_2, c3_3, c3_4, c3_5, c3_6, c3_7, c3_8, c3_9, c3_10, c3_11⟩ := cells12 (HK.out w3 HB3.out)
                  rw [FK.out] at c3_0
                  clear hb3
                  go_wp2_with fail
                  refine (rseq_any x.tx 1 _).mono ?_
                  rw [Htx.out]
                  rintro e w' ⟨rfl, rfl⟩
                  go_wp2_with fail
                  refine (rseq_any x.prev 0 _).mono ?_
                  rw [Hprev.out]
                  rintro e w' ⟨rfl, rfl⟩
                  go_wp2_with fail
                  refine (rseq_any x.nxt 0 _).mono ?_
                  rw [Hnxt.out]
                  rintro e w' ⟨rfl, rfl⟩
                  go_wp2_with fail
                  refine (rnode_any x.coord _).mono ?_
                  rw [Hcoord.out]
                  rintro e w' ⟨rfl, rfl⟩
                  go_wp2_with fail
                  refine (rmembers_any x.mA _ x.mc x.mem _ (HX.out.2.1.below HB3.out).mem HX.out.2.2.mem (HX.out.2.1.below HB3.out).mc.2).mono ?_
                  rw [Hmem.out]
                  rintro e w' ⟨rfl, rfl⟩
                  go_wp2_with fail
                  go_ret
                  exact ⟨by rw [HV.out]; rfl, HX.out.1.trans (HB3.out.mono HX.out.1.size)⟩
                | true =>
                  have HV := Lib.hid (show Rc.may x.m = Rc.locks x.locks by unfold Rc.may Rc.rest; (try rw [fspare]); simp [m_kind, m_tx, m_prev, m_nxt, m_key, m_old, m_new, m_coord, m_mem, m_locks, fkind, fspare, fkey, fold, fnew, ftx, fprev, fnxt, fcoord, fmem, fk, show Rc.kindOk 1 = true from rfl])
                  have Hkind := Lib.hid fkind
                  have Hspare := Lib.hid fspare
                  have Hkey := Lib.hid fkey
                  have Hold := Lib.hid fold
                  have Hnew := Lib.hid fnew
                  have Htx := Lib.hid ftx
                  have Hprev := Lib.hid fprev
                  have Hnxt := Lib.hid fnxt
                  have Hcoord := Lib.hid fcoord
                  have Hmem := Lib.hid fmem
                  have HK0 := Lib.hid fkind
                  clear fkind
                  clear fspare
                  clear fkey
                  clear fold
                  clear fnew
                  clear ftx
                  clear fprev
                  clear fnxt
                  clear fcoord
                  clear fmem
                  have FK := Lib.hid fk
                  clear fk
                  have l0 := HK.out _ (Below.refl _ _)
                  go_enter Try.func13, Try.ntmps13
                  go_wp2_with fail
                  refine (rkind_any x.kind _).mono ?_
                  rw [Hkind.out]
                  rintro e w' ⟨rfl, rfl⟩
                  go_wp2_with (refine wpList_load_rec (by rfl) (by rfl) (by rfl) (by assumption) ?_)
                  refine (spare_any x HX.out.2.2 HK0.out _).mono ?_
                  rw [Hspare.out]
                  rintro e w1 ⟨rfl, hb1⟩
                  have HB1 := Lib.hid (hb1)
                  have l1 := HK.out w1 HB1.out
                  obtain ⟨c1_0, c1_1, c1_2, c1_3, c1_4, c1_5, c1_6, c1_7, c1_8, c1_9, c1_10, c1_11⟩ := cells12 (HK.out w1 HB1.out)
                  rw [FK.out] at c1_0
                  clear hb1
                  go_wp2_with fail
                  refine (rkey_any x.key _).mono ?_
                  rw [Hkey.out]
                  rintro e w' ⟨rfl, rfl⟩
                  go_wp2_with fail
                  refine (rvalue_any x.old _).mono ?_
                  rw [Hold.out]
                  rintro e w2 ⟨rfl, hb2⟩
                  have HB2 := Lib.hid (HB1.out.trans (hb2.mono HB1.out.size))
                  have l2 := HK.out w2 HB2.out
                  obtain ⟨c2_0, c2_1, c2_2, c2_3, c2_4, c2_5, c2_6, c2_7, c2_8, c2_9, c2_10, c2_11⟩ := cells12 (HK.out w2 HB2.out)
                  rw [FK.out] at c2_0
                  clear hb2
                  go_wp2_with fail
                  refine (rvalue_any x.new _).mono ?_
                  rw [Hnew.out]
                  rintro e w3 ⟨rfl, hb3⟩
                  have HB3 := Lib.hid (HB2.out.trans (hb3.mono HB2.out.size))
                  have l3 := HK.out w3 HB3.out
                  obtain ⟨c3_0, c3_1, c3_2, c3_3, c3_4, c3_5, c3_6, c3_7, c3_8, c3_9, c3_10, c3_11⟩ := cells12 (HK.out w3 HB3.out)
                  rw [FK.out] at c3_0
                  clear hb3
                  go_wp2_with fail
                  refine (rseq_any x.tx 1 _).mono ?_
                  rw [Htx.out]
                  rintro e w' ⟨rfl, rfl⟩
                  go_wp2_with fail
                  refine (rseq_any x.prev 0 _).mono ?_
                  rw [Hprev.out]
                  rintro e w' ⟨rfl, rfl⟩
                  go_wp2_with fail
                  refine (rseq_any x.nxt 0 _).mono ?_
                  rw [Hnxt.out]
                  rintro e w' ⟨rfl, rfl⟩
                  go_wp2_with fail
                  refine (rnode_any x.coord _).mono ?_
                  rw [Hcoord.out]
                  rintro e w' ⟨rfl, rfl⟩
                  go_wp2_with fail
                  refine (rmembers_any x.mA _ x.mc x.mem _ (HX.out.2.1.below HB3.out).mem HX.out.2.2.mem (HX.out.2.1.below HB3.out).mc.2).mono ?_
                  rw [Hmem.out]
                  rintro e w' ⟨rfl, rfl⟩
                  go_wp2_with fail
                  refine (rlocks_any x.lA _ x.lc x.locks _ (HX.out.2.1.below HB3.out).locks HX.out.2.2.locks).mono ?_
                  rintro e w4 ⟨rfl, hb4⟩
                  have HB4 := Lib.hid (HB3.out.trans (hb4.mono HB3.out.size))
                  clear hb4
                  go_wp2_with fail
                  go_ret
                  exact ⟨by rw [HV.out]; rfl, HX.out.1.trans (HB4.out.mono HX.out.1.size)⟩
set_option maxHeartbeats 8000000 in
theorem may_2 (x : MD) (w : World) (hx : MOk w x) (hs : Small x) (fkind : Rc.kindOk x.kind = true) (fspare : Rc.spare x.m = false) (fk : x.kind = 2) : Calls Try.prog 13 #[mVal x] w fun e w' => e = .returned (.bool (Rc.may x.m)) ∧ Below w.heap.size w w' := by
  have hb : Below w.heap.size w (w.alloc (.cells (mCells x) 30)) := (Below.refl _ _).alloc (Nat.le_refl _) _
  have hx1 := hx.below hb
  have hk : ∀ W, Below (w.alloc (.cells (mCells x) 30)).heap.size (w.alloc (.cells (mCells x) 30)) W → Blk W w.heap.size 30 (mCells x) := fun W h => (Blk.new w 30 (mCells x)).below h (by simp)
  have HX := Lib.hid (And.intro hb (And.intro hx1 hs))
  have HK := Lib.hid hk
  clear hb hx hx1 hs hk
  cases fkey : Rc.keyOk x.key with
  | false =>
    have HV := Lib.hid (show Rc.may x.m = false by unfold Rc.may Rc.rest; (try rw [fspare]); simp [m_kind, m_tx, m_prev, m_nxt, m_key, m_old, m_new, m_coord, m_mem, m_locks, fkind, fspare, fkey, fk, show Rc.kindOk 2 = true from rfl])
    have Hkind := Lib.hid fkind
    have Hspare := Lib.hid fspare
    have Hkey := Lib.hid fkey
    have HK0 := Lib.hid fkind
    clear fkind
    clear fspare
    clear fkey
    have FK := Lib.hid fk
    clear fk
    have l0 := HK.out _ (Below.refl _ _)
    go_enter Try.func13, Try.ntmps13
    go_wp2_with fail
    refine (rkind_any x.kind _).mono ?_
    rw [Hkind.out]
    rintro e w' ⟨rfl, rfl⟩
    go_wp2_with (refine wpList_load_rec (by rfl) (by rfl) (by rfl) (by assumption) ?_)
    refine (spare_any x HX.out.2.2 HK0.out _).mono ?_
    rw [Hspare.out]
    rintro e w1 ⟨rfl, hb1⟩
    have HB1 := Lib.hid (hb1)
    have l1 := HK.out w1 HB1.out
    obtain ⟨c1_0, c1_1, c1_2, c1_3, c1_4, c1_5, c1_6, c1_7, c1_8, c1_9, c1_10, c1_11⟩ := cells12 (HK.out w1 HB1.out)
    rw [FK.out] at c1_0
    clear hb1
    go_wp2_with fail
    refine (rkey_any x.key _).mono ?_
    rw [Hkey.out]
    rintro e w' ⟨rfl, rfl⟩
    go_wp2_with fail
    go_ret
    exact ⟨by rw [HV.out]; rfl, HX.out.1.trans (HB1.out.mono HX.out.1.size)⟩
  | true =>
    cases fold : Rc.valOk x.old with
    | false =>
      have HV := Lib.hid (show Rc.may x.m = false by unfold Rc.may Rc.rest; (try rw [fspare]); simp [m_kind, m_tx, m_prev, m_nxt, m_key, m_old, m_new, m_coord, m_mem, m_locks, fkind, fspare, fkey, fold, fk, show Rc.kindOk 2 = true from rfl])
      have Hkind := Lib.hid fkind
      have Hspare := Lib.hid fspare
      have Hkey := Lib.hid fkey
      have Hold := Lib.hid fold
      have HK0 := Lib.hid fkind
      clear fkind
      clear fspare
      clear fkey
      clear fold
      have FK := Lib.hid fk
      clear fk
      have l0 := HK.out _ (Below.refl _ _)
      go_enter Try.func13, Try.ntmps13
      go_wp2_with fail
      refine (rkind_any x.kind _).mono ?_
      rw [Hkind.out]
      rintro e w' ⟨rfl, rfl⟩
      go_wp2_with (refine wpList_load_rec (by rfl) (by rfl) (by rfl) (by assumption) ?_)
      refine (spare_any x HX.out.2.2 HK0.out _).mono ?_
      rw [Hspare.out]
      rintro e w1 ⟨rfl, hb1⟩
      have HB1 := Lib.hid (hb1)
      have l1 := HK.out w1 HB1.out
      obtain ⟨c1_0, c1_1, c1_2, c1_3, c1_4, c1_5, c1_6, c1_7, c1_8, c1_9, c1_10, c1_11⟩ := cells12 (HK.out w1 HB1.out)
      rw [FK.out] at c1_0
      clear hb1
      go_wp2_with fail
      refine (rkey_any x.key _).mono ?_
      rw [Hkey.out]
      rintro e w' ⟨rfl, rfl⟩
      go_wp2_with fail
      refine (rvalue_any x.old _).mono ?_
      rw [Hold.out]
      rintro e w2 ⟨rfl, hb2⟩
      have HB2 := Lib.hid (HB1.out.trans (hb2.mono HB1.out.size))
      clear hb2
      go_wp2_with fail
      go_ret
      exact ⟨by rw [HV.out]; rfl, HX.out.1.trans (HB2.out.mono HX.out.1.size)⟩
    | true =>
      cases fnew : Rc.valOk x.new with
      | false =>
        have HV := Lib.hid (show Rc.may x.m = false by unfold Rc.may Rc.rest; (try rw [fspare]); simp [m_kind, m_tx, m_prev, m_nxt, m_key, m_old, m_new, m_coord, m_mem, m_locks, fkind, fspare, fkey, fold, fnew, fk, show Rc.kindOk 2 = true from rfl])
        have Hkind := Lib.hid fkind
        have Hspare := Lib.hid fspare
        have Hkey := Lib.hid fkey
        have Hold := Lib.hid fold
        have Hnew := Lib.hid fnew
        have HK0 := Lib.hid fkind
        clear fkind
        clear fspare
        clear fkey
        clear fold
        clear fnew
        have FK := Lib.hid fk
        clear fk
        have l0 := HK.out _ (Below.refl _ _)
        go_enter Try.func13, Try.ntmps13
        go_wp2_with fail
        refine (rkind_any x.kind _).mono ?_
        rw [Hkind.out]
        rintro e w' ⟨rfl, rfl⟩
        go_wp2_with (refine wpList_load_rec (by rfl) (by rfl) (by rfl) (by assumption) ?_)
        refine (spare_any x HX.out.2.2 HK0.out _).mono ?_
        rw [Hspare.out]
        rintro e w1 ⟨rfl, hb1⟩
        have HB1 := Lib.hid (hb1)
        have l1 := HK.out w1 HB1.out
        obtain ⟨c1_0, c1_1, c1_2, c1_3, c1_4, c1_5, c1_6, c1_7, c1_8, c1_9, c1_10, c1_11⟩ := cells12 (HK.out w1 HB1.out)
        rw [FK.out] at c1_0
        clear hb1
        go_wp2_with fail
        refine (rkey_any x.key _).mono ?_
        rw [Hkey.out]
        rintro e w' ⟨rfl, rfl⟩
        go_wp2_with fail
        refine (rvalue_any x.old _).mono ?_
        rw [Hold.out]
        rintro e w2 ⟨rfl, hb2⟩
        have HB2 := Lib.hid (HB1.out.trans (hb2.mono HB1.out.size))
        have l2 := HK.out w2 HB2.out
        obtain ⟨c2_0, c2_1, c2_2, c2_3, c2_4, c2_5, c2_6, c2_7, c2_8, c2_9, c2_10, c2_11⟩ := cells12 (HK.out w2 HB2.out)
        rw [FK.out] at c2_0
        clear hb2
        go_wp2_with fail
        refine (rvalue_any x.new _).mono ?_
        rw [Hnew.out]
        rintro e w3 ⟨rfl, hb3⟩
        have HB3 := Lib.hid (HB2.out.trans (hb3.mono HB2.out.size))
        clear hb3
        go_wp2_with fail
        go_ret
        exact ⟨by rw [HV.out]; rfl, HX.out.1.trans (HB3.out.mono HX.out.1.size)⟩
      | true =>
        cases ftx : seq x.tx 1 with
        | false =>
          have HV := Lib.hid (show Rc.may x.m = false by unfold Rc.may Rc.rest; (try rw [fspare]); simp [m_kind, m_tx, m_prev, m_nxt, m_key, m_old, m_new, m_coord, m_mem, m_locks, fkind, fspare, fkey, fold, fnew, ftx, fk, show Rc.kindOk 2 = true from rfl])
          have Hkind := Lib.hid fkind
          have Hspare := Lib.hid fspare
          have Hkey := Lib.hid fkey
          have Hold := Lib.hid fold
          have Hnew := Lib.hid fnew
          have Htx := Lib.hid ftx
          have HK0 := Lib.hid fkind
          clear fkind
          clear fspare
          clear fkey
          clear fold
          clear fnew
          clear ftx
          have FK := Lib.hid fk
          clear fk
          have l0 := HK.out _ (Below.refl _ _)
          go_enter Try.func13, Try.ntmps13
          go_wp2_with fail
          refine (rkind_any x.kind _).mono ?_
          rw [Hkind.out]
          rintro e w' ⟨rfl, rfl⟩
          go_wp2_with (refine wpList_load_rec (by rfl) (by rfl) (by rfl) (by assumption) ?_)
          refine (spare_any x HX.out.2.2 HK0.out _).mono ?_
          rw [Hspare.out]
          rintro e w1 ⟨rfl, hb1⟩
          have HB1 := Lib.hid (hb1)
          have l1 := HK.out w1 HB1.out
          obtain ⟨c1_0, c1_1, c1_2, c1_3, c1_4, c1_5, c1_6, c1_7, c1_8, c1_9, c1_10, c1_11⟩ := cells12 (HK.out w1 HB1.out)
          rw [FK.out] at c1_0
          clear hb1
          go_wp2_with fail
          refine (rkey_any x.key _).mono ?_
          rw [Hkey.out]
          rintro e w' ⟨rfl, rfl⟩
          go_wp2_with fail
          refine (rvalue_any x.old _).mono ?_
          rw [Hold.out]
          rintro e w2 ⟨rfl, hb2⟩
          have HB2 := Lib.hid (HB1.out.trans (hb2.mono HB1.out.size))
          have l2 := HK.out w2 HB2.out
          obtain ⟨c2_0, c2_1, c2_2, c2_3, c2_4, c2_5, c2_6, c2_7, c2_8, c2_9, c2_10, c2_11⟩ := cells12 (HK.out w2 HB2.out)
          rw [FK.out] at c2_0
          clear hb2
          go_wp2_with fail
          refine (rvalue_any x.new _).mono ?_
          rw [Hnew.out]
          rintro e w3 ⟨rfl, hb3⟩
          have HB3 := Lib.hid (HB2.out.trans (hb3.mono HB2.out.size))
          have l3 := HK.out w3 HB3.out
          obtain ⟨c3_0, c3_1, c3_2, c3_3, c3_4, c3_5, c3_6, c3_7, c3_8, c3_9, c3_10, c3_11⟩ := cells12 (HK.out w3 HB3.out)
          rw [FK.out] at c3_0
          clear hb3
          go_wp2_with fail
          refine (rseq_any x.tx 1 _).mono ?_
          rw [Htx.out]
          rintro e w' ⟨rfl, rfl⟩
          go_wp2_with fail
          go_ret
          exact ⟨by rw [HV.out]; rfl, HX.out.1.trans (HB3.out.mono HX.out.1.size)⟩
        | true =>
          cases fprev : seq x.prev 0 with
          | false =>
            have HV := Lib.hid (show Rc.may x.m = false by unfold Rc.may Rc.rest; (try rw [fspare]); simp [m_kind, m_tx, m_prev, m_nxt, m_key, m_old, m_new, m_coord, m_mem, m_locks, fkind, fspare, fkey, fold, fnew, ftx, fprev, fk, show Rc.kindOk 2 = true from rfl])
            have Hkind := Lib.hid fkind
            have Hspare := Lib.hid fspare
            have Hkey := Lib.hid fkey
            have Hold := Lib.hid fold
            have Hnew := Lib.hid fnew
            have Htx := Lib.hid ftx
            have Hprev := Lib.hid fprev
            have HK0 := Lib.hid fkind
            clear fkind
            clear fspare
            clear fkey
            clear fold
            clear fnew
            clear ftx
            clear fprev
            have FK := Lib.hid fk
            clear fk
            have l0 := HK.out _ (Below.refl _ _)
            go_enter Try.func13, Try.ntmps13
            go_wp2_with fail
            refine (rkind_any x.kind _).mono ?_
            rw [Hkind.out]
            rintro e w' ⟨rfl, rfl⟩
            go_wp2_with (refine wpList_load_rec (by rfl) (by rfl) (by rfl) (by assumption) ?_)
            refine (spare_any x HX.out.2.2 HK0.out _).mono ?_
            rw [Hspare.out]
            rintro e w1 ⟨rfl, hb1⟩
            have HB1 := Lib.hid (hb1)
            have l1 := HK.out w1 HB1.out
            obtain ⟨c1_0, c1_1, c1_2, c1_3, c1_4, c1_5, c1_6, c1_7, c1_8, c1_9, c1_10, c1_11⟩ := cells12 (HK.out w1 HB1.out)
            rw [FK.out] at c1_0
            clear hb1
            go_wp2_with fail
            refine (rkey_any x.key _).mono ?_
            rw [Hkey.out]
            rintro e w' ⟨rfl, rfl⟩
            go_wp2_with fail
            refine (rvalue_any x.old _).mono ?_
            rw [Hold.out]
            rintro e w2 ⟨rfl, hb2⟩
            have HB2 := Lib.hid (HB1.out.trans (hb2.mono HB1.out.size))
            have l2 := HK.out w2 HB2.out
            obtain ⟨c2_0, c2_1, c2_2, c2_3, c2_4, c2_5, c2_6, c2_7, c2_8, c2_9, c2_10, c2_11⟩ := cells12 (HK.out w2 HB2.out)
            rw [FK.out] at c2_0
            clear hb2
            go_wp2_with fail
            refine (rvalue_any x.new _).mono ?_
            rw [Hnew.out]
            rintro e w3 ⟨rfl, hb3⟩
            have HB3 := Lib.hid (HB2.out.trans (hb3.mono HB2.out.size))
            have l3 := HK.out w3 HB3.out
            obtain ⟨c3_0, c3_1, c3_2, c3_3, c3_4, c3_5, c3_6, c3_7, c3_8, c3_9, c3_10, c3_11⟩ := cells12 (HK.out w3 HB3.out)
            rw [FK.out] at c3_0
            clear hb3
            go_wp2_with fail
            refine (rseq_any x.tx 1 _).mono ?_
            rw [Htx.out]
            rintro e w' ⟨rfl, rfl⟩
            go_wp2_with fail
            refine (rseq_any x.prev 0 _).mono ?_
            rw [Hprev.out]
            rintro e w' ⟨rfl, rfl⟩
            go_wp2_with fail
            go_ret
            exact ⟨by rw [HV.out]; rfl, HX.out.1.trans (HB3.out.mono HX.out.1.size)⟩
          | true =>
            cases fnxt : seq x.nxt 0 with
            | false =>
              have HV := Lib.hid (show Rc.may x.m = false by unfold Rc.may Rc.rest; (try rw [fspare]); simp [m_kind, m_tx, m_prev, m_nxt, m_key, m_old, m_new, m_coord, m_mem, m_locks, fkind, fspare, fkey, fold, fnew, ftx, fprev, fnxt, fk, show Rc.kindOk 2 = true from rfl])
              have Hkind := Lib.hid fkind
              have Hspare := Lib.hid fspare
              have Hkey := Lib.hid fkey
              have Hold := Lib.hid fold
              have Hnew := Lib.hid fnew
              have Htx := Lib.hid ftx
              have Hprev := Lib.hid fprev
              have Hnxt := Lib.hid fnxt
              have HK0 := Lib.hid fkind
              clear fkind
              clear fspare
              clear fkey
              clear fold
              clear fnew
              clear ftx
              clear fprev
              clear fnxt
              have FK := Lib.hid fk
              clear fk
              have l0 := HK.out _ (Below.refl _ _)
              go_enter Try.func13, Try.ntmps13
              go_wp2_with fail
              refine (rkind_any x.kind _).mono ?_
              rw [Hkind.out]
              rintro e w' ⟨rfl, rfl⟩
              go_wp2_with (refine wpList_load_rec (by rfl) (by rfl) (by rfl) (by assumption) ?_)
              refine (spare_any x HX.out.2.2 HK0.out _).mono ?_
              rw [Hspare.out]
              rintro e w1 ⟨rfl, hb1⟩
              have HB1 := Lib.hid (hb1)
              have l1 := HK.out w1 HB1.out
              obtain ⟨c1_0, c1_1, c1_2, c1_3, c1_4, c1_5, c1_6, c1_7, c1_8, c1_9, c1_10, c1_11⟩ := cells12 (HK.out w1 HB1.out)
              rw [FK.out] at c1_0
              clear hb1
              go_wp2_with fail
              refine (rkey_any x.key _).mono ?_
              rw [Hkey.out]
              rintro e w' ⟨rfl, rfl⟩
              go_wp2_with fail
              refine (rvalue_any x.old _).mono ?_
              rw [Hold.out]
              rintro e w2 ⟨rfl, hb2⟩
              have HB2 := Lib.hid (HB1.out.trans (hb2.mono HB1.out.size))
              have l2 := HK.out w2 HB2.out
              obtain ⟨c2_0, c2_1, c2_2, c2_3, c2_4, c2_5, c2_6, c2_7, c2_8, c2_9, c2_10, c2_11⟩ := cells12 (HK.out w2 HB2.out)
              rw [FK.out] at c2_0
              clear hb2
              go_wp2_with fail
              refine (rvalue_any x.new _).mono ?_
              rw [Hnew.out]
              rintro e w3 ⟨rfl, hb3⟩
              have HB3 := Lib.hid (HB2.out.trans (hb3.mono HB2.out.size))
              have l3 := HK.out w3 HB3.out
              obtain ⟨c3_0, c3_1, c3_2, c3_3, c3_4, c3_5, c3_6, c3_7, c3_8, c3_9, c3_10, c3_11⟩ := cells12 (HK.out w3 HB3.out)
              rw [FK.out] at c3_0
              clear hb3
              go_wp2_with fail
              refine (rseq_any x.tx 1 _).mono ?_
              rw [Htx.out]
              rintro e w' ⟨rfl, rfl⟩
              go_wp2_with fail
              refine (rseq_any x.prev 0 _).mono ?_
              rw [Hprev.out]
              rintro e w' ⟨rfl, rfl⟩
              go_wp2_with fail
              refine (rseq_any x.nxt 0 _).mono ?_
              rw [Hnxt.out]
              rintro e w' ⟨rfl, rfl⟩
              go_wp2_with fail
              go_ret
              exact ⟨by rw [HV.out]; rfl, HX.out.1.trans (HB3.out.mono HX.out.1.size)⟩
            | true =>
              cases fcoord : node x.coord with
              | false =>
                have HV := Lib.hid (show Rc.may x.m = false by unfold Rc.may Rc.rest; (try rw [fspare]); simp [m_kind, m_tx, m_prev, m_nxt, m_key, m_old, m_new, m_coord, m_mem, m_locks, fkind, fspare, fkey, fold, fnew, ftx, fprev, fnxt, fcoord, fk, show Rc.kindOk 2 = true from rfl])
                have Hkind := Lib.hid fkind
                have Hspare := Lib.hid fspare
                have Hkey := Lib.hid fkey
                have Hold := Lib.hid fold
                have Hnew := Lib.hid fnew
                have Htx := Lib.hid ftx
                have Hprev := Lib.hid fprev
                have Hnxt := Lib.hid fnxt
                have Hcoord := Lib.hid fcoord
                have HK0 := Lib.hid fkind
                clear fkind
                clear fspare
                clear fkey
                clear fold
                clear fnew
                clear ftx
                clear fprev
                clear fnxt
                clear fcoord
                have FK := Lib.hid fk
                clear fk
                have l0 := HK.out _ (Below.refl _ _)
                go_enter Try.func13, Try.ntmps13
                go_wp2_with fail
                refine (rkind_any x.kind _).mono ?_
                rw [Hkind.out]
                rintro e w' ⟨rfl, rfl⟩
                go_wp2_with (refine wpList_load_rec (by rfl) (by rfl) (by rfl) (by assumption) ?_)
                refine (spare_any x HX.out.2.2 HK0.out _).mono ?_
                rw [Hspare.out]
                rintro e w1 ⟨rfl, hb1⟩
                have HB1 := Lib.hid (hb1)
                have l1 := HK.out w1 HB1.out
                obtain ⟨c1_0, c1_1, c1_2, c1_3, c1_4, c1_5, c1_6, c1_7, c1_8, c1_9, c1_10, c1_11⟩ := cells12 (HK.out w1 HB1.out)
                rw [FK.out] at c1_0
                clear hb1
                go_wp2_with fail
                refine (rkey_any x.key _).mono ?_
                rw [Hkey.out]
                rintro e w' ⟨rfl, rfl⟩
                go_wp2_with fail
                refine (rvalue_any x.old _).mono ?_
                rw [Hold.out]
                rintro e w2 ⟨rfl, hb2⟩
                have HB2 := Lib.hid (HB1.out.trans (hb2.mono HB1.out.size))
                have l2 := HK.out w2 HB2.out
                obtain ⟨c2_0, c2_1, c2_2, c2_3, c2_4, c2_5, c2_6, c2_7, c2_8, c2_9, c2_10, c2_11⟩ := cells12 (HK.out w2 HB2.out)
                rw [FK.out] at c2_0
                clear hb2
                go_wp2_with fail
                refine (rvalue_any x.new _).mono ?_
                rw [Hnew.out]
                rintro e w3 ⟨rfl, hb3⟩
                have HB3 := Lib.hid (HB2.out.trans (hb3.mono HB2.out.size))
                have l3 := HK.out w3 HB3.out
                obtain ⟨c3_0, c3_1, c3_2, c3_3, c3_4, c3_5, c3_6, c3_7, c3_8, c3_9, c3_10, c3_11⟩ := cells12 (HK.out w3 HB3.out)
                rw [FK.out] at c3_0
                clear hb3
                go_wp2_with fail
                refine (rseq_any x.tx 1 _).mono ?_
                rw [Htx.out]
                rintro e w' ⟨rfl, rfl⟩
                go_wp2_with fail
                refine (rseq_any x.prev 0 _).mono ?_
                rw [Hprev.out]
                rintro e w' ⟨rfl, rfl⟩
                go_wp2_with fail
                refine (rseq_any x.nxt 0 _).mono ?_
                rw [Hnxt.out]
                rintro e w' ⟨rfl, rfl⟩
                go_wp2_with fail
                refine (rnode_any x.coord _).mono ?_
                rw [Hcoord.out]
                rintro e w' ⟨rfl, rfl⟩
                go_wp2_with fail
                go_ret
                exact ⟨by rw [HV.out]; rfl, HX.out.1.trans (HB3.out.mono HX.out.1.size)⟩
              | true =>
                cases fmem : members x.mem with
                | false =>
                  have HV := Lib.hid (show Rc.may x.m = false by unfold Rc.may Rc.rest; (try rw [fspare]); simp [m_kind, m_tx, m_prev, m_nxt, m_key, m_old, m_new, m_coord, m_mem, m_locks, fkind, fspare, fkey, fold, fnew, ftx, fprev, fnxt, fcoord, fmem, fk, show Rc.kindOk 2 = true from rfl])
                  have Hkind := Lib.hid fkind
                  have Hspare := Lib.hid fspare
                  have Hkey := Lib.hid fkey
                  have Hold := Lib.hid fold
                  have Hnew := Lib.hid fnew
                  have Htx := Lib.hid ftx
                  have Hprev := Lib.hid fprev
                  have Hnxt := Lib.hid fnxt
                  have Hcoord := Lib.hid fcoord
                  have Hmem := Lib.hid fmem
                  have HK0 := Lib.hid fkind
                  clear fkind
                  clear fspare
                  clear fkey
                  clear fold
                  clear fnew
                  clear ftx
                  clear fprev
                  clear fnxt
                  clear fcoord
                  clear fmem
                  have FK := Lib.hid fk
                  clear fk
                  have l0 := HK.out _ (Below.refl _ _)
                  go_enter Try.func13, Try.ntmps13
                  go_wp2_with fail
                  refine (rkind_any x.kind _).mono ?_
                  rw [Hkind.out]
                  rintro e w' ⟨rfl, rfl⟩
                  go_wp2_with (refine wpList_load_rec (by rfl) (by rfl) (by rfl) (by assumption) ?_)
                  refine (spare_any x HX.out.2.2 HK0.out _).mono ?_
                  rw [Hspare.out]
                  rintro e w1 ⟨rfl, hb1⟩
                  have HB1 := Lib.hid (hb1)
                  have l1 := HK.out w1 HB1.out
                  obtain ⟨c1_0, c1_1, c1_2, c1_3, c1_4, c1_5, c1_6, c1_7, c1_8, c1_9, c1_10, c1_11⟩ := cells12 (HK.out w1 HB1.out)
                  rw [FK.out] at c1_0
                  clear hb1
                  go_wp2_with fail
                  refine (rkey_any x.key _).mono ?_
                  rw [Hkey.out]
                  rintro e w' ⟨rfl, rfl⟩
                  go_wp2_with fail
                  refine (rvalue_any x.old _).mono ?_
                  rw [Hold.out]
                  rintro e w2 ⟨rfl, hb2⟩
                  have HB2 := Lib.hid (HB1.out.trans (hb2.mono HB1.out.size))
                  have l2 := HK.out w2 HB2.out
                  obtain ⟨c2_0, c2_1, c2_2, c2_3, c2_4, c2_5, c2_6, c2_7, c2_8, c2_9, c2_10, c2_11⟩ := cells12 (HK.out w2 HB2.out)
                  rw [FK.out] at c2_0
                  clear hb2
                  go_wp2_with fail
                  refine (rvalue_any x.new _).mono ?_
                  rw [Hnew.out]
                  rintro e w3 ⟨rfl, hb3⟩
                  have HB3 := Lib.hid (HB2.out.trans (hb3.mono HB2.out.size))
                  have l3 := HK.out w3 HB3.out
                  obtain ⟨c3_0, c3_1, c3_2, c3_3, c3_4, c3_5, c3_6, c3_7, c3_8, c3_9, c3_10, c3_11⟩ := cells12 (HK.out w3 HB3.out)
                  rw [FK.out] at c3_0
                  clear hb3
                  go_wp2_with fail
                  refine (rseq_any x.tx 1 _).mono ?_
                  rw [Htx.out]
                  rintro e w' ⟨rfl, rfl⟩
                  go_wp2_with fail
                  refine (rseq_any x.prev 0 _).mono ?_
                  rw [Hprev.out]
                  rintro e w' ⟨rfl, rfl⟩
                  go_wp2_with fail
                  refine (rseq_any x.nxt 0 _).mono ?_
                  rw [Hnxt.out]
                  rintro e w' ⟨rfl, rfl⟩
                  go_wp2_with fail
                  refine (rnode_any x.coord _).mono ?_
                  rw [Hcoord.out]
                  rintro e w' ⟨rfl, rfl⟩
                  go_wp2_with fail
                  refine (rmembers_any x.mA _ x.mc x.mem _ (HX.out.2.1.below HB3.out).mem HX.out.2.2.mem (HX.out.2.1.below HB3.out).mc.2).mono ?_
                  rw [Hmem.out]
                  rintro e w' ⟨rfl, rfl⟩
                  go_wp2_with fail
                  go_ret
                  exact ⟨by rw [HV.out]; rfl, HX.out.1.trans (HB3.out.mono HX.out.1.size)⟩
                | true =>
                  have HV := Lib.hid (show Rc.may x.m = Rc.locks x.locks by unfold Rc.may Rc.rest; (try rw [fspare]); simp [m_kind, m_tx, m_prev, m_nxt, m_key, m_old, m_new, m_coord, m_mem, m_locks, fkind, fspare, fkey, fold, fnew, ftx, fprev, fnxt, fcoord, fmem, fk, show Rc.kindOk 2 = true from rfl])
                  have Hkind := Lib.hid fkind
                  have Hspare := Lib.hid fspare
                  have Hkey := Lib.hid fkey
                  have Hold := Lib.hid fold
                  have Hnew := Lib.hid fnew
                  have Htx := Lib.hid ftx
                  have Hprev := Lib.hid fprev
                  have Hnxt := Lib.hid fnxt
                  have Hcoord := Lib.hid fcoord
                  have Hmem := Lib.hid fmem
                  have HK0 := Lib.hid fkind
                  clear fkind
                  clear fspare
                  clear fkey
                  clear fold
                  clear fnew
                  clear ftx
                  clear fprev
                  clear fnxt
                  clear fcoord
                  clear fmem
                  have FK := Lib.hid fk
                  clear fk
                  have l0 := HK.out _ (Below.refl _ _)
                  go_enter Try.func13, Try.ntmps13
                  go_wp2_with fail
                  refine (rkind_any x.kind _).mono ?_
                  rw [Hkind.out]
                  rintro e w' ⟨rfl, rfl⟩
                  go_wp2_with (refine wpList_load_rec (by rfl) (by rfl) (by rfl) (by assumption) ?_)
                  refine (spare_any x HX.out.2.2 HK0.out _).mono ?_
                  rw [Hspare.out]
                  rintro e w1 ⟨rfl, hb1⟩
                  have HB1 := Lib.hid (hb1)
                  have l1 := HK.out w1 HB1.out
                  obtain ⟨c1_0, c1_1, c1_2, c1_3, c1_4, c1_5, c1_6, c1_7, c1_8, c1_9, c1_10, c1_11⟩ := cells12 (HK.out w1 HB1.out)
                  rw [FK.out] at c1_0
                  clear hb1
                  go_wp2_with fail
                  refine (rkey_any x.key _).mono ?_
                  rw [Hkey.out]
                  rintro e w' ⟨rfl, rfl⟩
                  go_wp2_with fail
                  refine (rvalue_any x.old _).mono ?_
                  rw [Hold.out]
                  rintro e w2 ⟨rfl, hb2⟩
                  have HB2 := Lib.hid (HB1.out.trans (hb2.mono HB1.out.size))
                  have l2 := HK.out w2 HB2.out
                  obtain ⟨c2_0, c2_1, c2_2, c2_3, c2_4, c2_5, c2_6, c2_7, c2_8, c2_9, c2_10, c2_11⟩ := cells12 (HK.out w2 HB2.out)
                  rw [FK.out] at c2_0
                  clear hb2
                  go_wp2_with fail
                  refine (rvalue_any x.new _).mono ?_
                  rw [Hnew.out]
                  rintro e w3 ⟨rfl, hb3⟩
                  have HB3 := Lib.hid (HB2.out.trans (hb3.mono HB2.out.size))
                  have l3 := HK.out w3 HB3.out
                  obtain ⟨c3_0, c3_1, c3_2, c3_3, c3_4, c3_5, c3_6, c3_7, c3_8, c3_9, c3_10, c3_11⟩ := cells12 (HK.out w3 HB3.out)
                  rw [FK.out] at c3_0
                  clear hb3
                  go_wp2_with fail
                  refine (rseq_any x.tx 1 _).mono ?_
                  rw [Htx.out]
                  rintro e w' ⟨rfl, rfl⟩
                  go_wp2_with fail
                  refine (rseq_any x.prev 0 _).mono ?_
                  rw [Hprev.out]
                  rintro e w' ⟨rfl, rfl⟩
                  go_wp2_with fail
                  refine (rseq_any x.nxt 0 _).mono ?_
                  rw [Hnxt.out]
                  rintro e w' ⟨rfl, rfl⟩
                  go_wp2_with fail
                  refine (rnode_any x.coord _).mono ?_
                  rw [Hcoord.out]
                  rintro e w' ⟨rfl, rfl⟩
                  go_wp2_with fail
                  refine (rmembers_any x.mA _ x.mc x.mem _ (HX.out.2.1.below HB3.out).mem HX.out.2.2.mem (HX.out.2.1.below HB3.out).mc.2).mono ?_
                  rw [Hmem.out]
                  rintro e w' ⟨rfl, rfl⟩
                  go_wp2_with fail
                  refine (rlocks_any x.lA _ x.lc x.locks _ (HX.out.2.1.below HB3.out).locks HX.out.2.2.locks).mono ?_
                  rintro e w4 ⟨rfl, hb4⟩
                  have HB4 := Lib.hid (HB3.out.trans (hb4.mono HB3.out.size))
                  clear hb4
                  go_wp2_with fail
                  go_ret
                  exact ⟨by rw [HV.out]; rfl, HX.out.1.trans (HB4.out.mono HX.out.1.size)⟩
set_option maxHeartbeats 8000000 in
theorem may_o (x : MD) (w : World) (hx : MOk w x) (hs : Small x) (fkind : Rc.kindOk x.kind = true) (fspare : Rc.spare x.m = false) (g7 : ¬ x.kind = 7) (g8 : ¬ x.kind = 8) (g1 : ¬ x.kind = 1) (g2 : ¬ x.kind = 2) : Calls Try.prog 13 #[mVal x] w fun e w' => e = .returned (.bool (Rc.may x.m)) ∧ Below w.heap.size w w' := by
  have hb : Below w.heap.size w (w.alloc (.cells (mCells x) 30)) := (Below.refl _ _).alloc (Nat.le_refl _) _
  have hx1 := hx.below hb
  have hk : ∀ W, Below (w.alloc (.cells (mCells x) 30)).heap.size (w.alloc (.cells (mCells x) 30)) W → Blk W w.heap.size 30 (mCells x) := fun W h => (Blk.new w 30 (mCells x)).below h (by simp)
  have HX := Lib.hid (And.intro hb (And.intro hx1 hs))
  have HK := Lib.hid hk
  clear hb hx hx1 hs hk
  cases ftx : seq x.tx 1 with
  | false =>
    have HV := Lib.hid (show Rc.may x.m = false by unfold Rc.may Rc.rest; (try rw [fspare]); simp [m_kind, m_tx, m_prev, m_nxt, m_key, m_old, m_new, m_coord, m_mem, m_locks, fkind, fspare, ftx, g7, g8, g1, g2])
    have Hkind := Lib.hid fkind
    have Hspare := Lib.hid fspare
    have Htx := Lib.hid ftx
    have HK0 := Lib.hid fkind
    clear fkind
    clear fspare
    clear ftx
    have b7 : (x.kind == 7) = false := by rw [beq_eq_false_iff_ne]; exact g7
    have b8 : (x.kind == 8) = false := by rw [beq_eq_false_iff_ne]; exact g8
    have b1 : (x.kind == 1) = false := by rw [beq_eq_false_iff_ne]; exact g1
    have b2 : (x.kind == 2) = false := by rw [beq_eq_false_iff_ne]; exact g2
    clear g7 g8 g1 g2
    have l0 := HK.out _ (Below.refl _ _)
    go_enter Try.func13, Try.ntmps13
    go_wp2_with fail
    refine (rkind_any x.kind _).mono ?_
    rw [Hkind.out]
    rintro e w' ⟨rfl, rfl⟩
    go_wp2_with (refine wpList_load_rec (by rfl) (by rfl) (by rfl) (by assumption) ?_)
    refine (spare_any x HX.out.2.2 HK0.out _).mono ?_
    rw [Hspare.out]
    rintro e w1 ⟨rfl, hb1⟩
    have HB1 := Lib.hid (hb1)
    have l1 := HK.out w1 HB1.out
    obtain ⟨c1_0, c1_1, c1_2, c1_3, c1_4, c1_5, c1_6, c1_7, c1_8, c1_9, c1_10, c1_11⟩ := cells12 (HK.out w1 HB1.out)
    clear hb1
    go_wp2_with fail
    refine (rseq_any x.tx 1 _).mono ?_
    rw [Htx.out]
    rintro e w' ⟨rfl, rfl⟩
    go_wp2_with fail
    go_ret
    exact ⟨by rw [HV.out]; rfl, HX.out.1.trans (HB1.out.mono HX.out.1.size)⟩
  | true =>
    cases fprev : seq x.prev 0 with
    | false =>
      have HV := Lib.hid (show Rc.may x.m = false by unfold Rc.may Rc.rest; (try rw [fspare]); simp [m_kind, m_tx, m_prev, m_nxt, m_key, m_old, m_new, m_coord, m_mem, m_locks, fkind, fspare, ftx, fprev, g7, g8, g1, g2])
      have Hkind := Lib.hid fkind
      have Hspare := Lib.hid fspare
      have Htx := Lib.hid ftx
      have Hprev := Lib.hid fprev
      have HK0 := Lib.hid fkind
      clear fkind
      clear fspare
      clear ftx
      clear fprev
      have b7 : (x.kind == 7) = false := by rw [beq_eq_false_iff_ne]; exact g7
      have b8 : (x.kind == 8) = false := by rw [beq_eq_false_iff_ne]; exact g8
      have b1 : (x.kind == 1) = false := by rw [beq_eq_false_iff_ne]; exact g1
      have b2 : (x.kind == 2) = false := by rw [beq_eq_false_iff_ne]; exact g2
      clear g7 g8 g1 g2
      have l0 := HK.out _ (Below.refl _ _)
      go_enter Try.func13, Try.ntmps13
      go_wp2_with fail
      refine (rkind_any x.kind _).mono ?_
      rw [Hkind.out]
      rintro e w' ⟨rfl, rfl⟩
      go_wp2_with (refine wpList_load_rec (by rfl) (by rfl) (by rfl) (by assumption) ?_)
      refine (spare_any x HX.out.2.2 HK0.out _).mono ?_
      rw [Hspare.out]
      rintro e w1 ⟨rfl, hb1⟩
      have HB1 := Lib.hid (hb1)
      have l1 := HK.out w1 HB1.out
      obtain ⟨c1_0, c1_1, c1_2, c1_3, c1_4, c1_5, c1_6, c1_7, c1_8, c1_9, c1_10, c1_11⟩ := cells12 (HK.out w1 HB1.out)
      clear hb1
      go_wp2_with fail
      refine (rseq_any x.tx 1 _).mono ?_
      rw [Htx.out]
      rintro e w' ⟨rfl, rfl⟩
      go_wp2_with fail
      refine (rseq_any x.prev 0 _).mono ?_
      rw [Hprev.out]
      rintro e w' ⟨rfl, rfl⟩
      go_wp2_with fail
      go_ret
      exact ⟨by rw [HV.out]; rfl, HX.out.1.trans (HB1.out.mono HX.out.1.size)⟩
    | true =>
      cases fnxt : seq x.nxt 0 with
      | false =>
        have HV := Lib.hid (show Rc.may x.m = false by unfold Rc.may Rc.rest; (try rw [fspare]); simp [m_kind, m_tx, m_prev, m_nxt, m_key, m_old, m_new, m_coord, m_mem, m_locks, fkind, fspare, ftx, fprev, fnxt, g7, g8, g1, g2])
        have Hkind := Lib.hid fkind
        have Hspare := Lib.hid fspare
        have Htx := Lib.hid ftx
        have Hprev := Lib.hid fprev
        have Hnxt := Lib.hid fnxt
        have HK0 := Lib.hid fkind
        clear fkind
        clear fspare
        clear ftx
        clear fprev
        clear fnxt
        have b7 : (x.kind == 7) = false := by rw [beq_eq_false_iff_ne]; exact g7
        have b8 : (x.kind == 8) = false := by rw [beq_eq_false_iff_ne]; exact g8
        have b1 : (x.kind == 1) = false := by rw [beq_eq_false_iff_ne]; exact g1
        have b2 : (x.kind == 2) = false := by rw [beq_eq_false_iff_ne]; exact g2
        clear g7 g8 g1 g2
        have l0 := HK.out _ (Below.refl _ _)
        go_enter Try.func13, Try.ntmps13
        go_wp2_with fail
        refine (rkind_any x.kind _).mono ?_
        rw [Hkind.out]
        rintro e w' ⟨rfl, rfl⟩
        go_wp2_with (refine wpList_load_rec (by rfl) (by rfl) (by rfl) (by assumption) ?_)
        refine (spare_any x HX.out.2.2 HK0.out _).mono ?_
        rw [Hspare.out]
        rintro e w1 ⟨rfl, hb1⟩
        have HB1 := Lib.hid (hb1)
        have l1 := HK.out w1 HB1.out
        obtain ⟨c1_0, c1_1, c1_2, c1_3, c1_4, c1_5, c1_6, c1_7, c1_8, c1_9, c1_10, c1_11⟩ := cells12 (HK.out w1 HB1.out)
        clear hb1
        go_wp2_with fail
        refine (rseq_any x.tx 1 _).mono ?_
        rw [Htx.out]
        rintro e w' ⟨rfl, rfl⟩
        go_wp2_with fail
        refine (rseq_any x.prev 0 _).mono ?_
        rw [Hprev.out]
        rintro e w' ⟨rfl, rfl⟩
        go_wp2_with fail
        refine (rseq_any x.nxt 0 _).mono ?_
        rw [Hnxt.out]
        rintro e w' ⟨rfl, rfl⟩
        go_wp2_with fail
        go_ret
        exact ⟨by rw [HV.out]; rfl, HX.out.1.trans (HB1.out.mono HX.out.1.size)⟩
      | true =>
        cases fcoord : node x.coord with
        | false =>
          have HV := Lib.hid (show Rc.may x.m = false by unfold Rc.may Rc.rest; (try rw [fspare]); simp [m_kind, m_tx, m_prev, m_nxt, m_key, m_old, m_new, m_coord, m_mem, m_locks, fkind, fspare, ftx, fprev, fnxt, fcoord, g7, g8, g1, g2])
          have Hkind := Lib.hid fkind
          have Hspare := Lib.hid fspare
          have Htx := Lib.hid ftx
          have Hprev := Lib.hid fprev
          have Hnxt := Lib.hid fnxt
          have Hcoord := Lib.hid fcoord
          have HK0 := Lib.hid fkind
          clear fkind
          clear fspare
          clear ftx
          clear fprev
          clear fnxt
          clear fcoord
          have b7 : (x.kind == 7) = false := by rw [beq_eq_false_iff_ne]; exact g7
          have b8 : (x.kind == 8) = false := by rw [beq_eq_false_iff_ne]; exact g8
          have b1 : (x.kind == 1) = false := by rw [beq_eq_false_iff_ne]; exact g1
          have b2 : (x.kind == 2) = false := by rw [beq_eq_false_iff_ne]; exact g2
          clear g7 g8 g1 g2
          have l0 := HK.out _ (Below.refl _ _)
          go_enter Try.func13, Try.ntmps13
          go_wp2_with fail
          refine (rkind_any x.kind _).mono ?_
          rw [Hkind.out]
          rintro e w' ⟨rfl, rfl⟩
          go_wp2_with (refine wpList_load_rec (by rfl) (by rfl) (by rfl) (by assumption) ?_)
          refine (spare_any x HX.out.2.2 HK0.out _).mono ?_
          rw [Hspare.out]
          rintro e w1 ⟨rfl, hb1⟩
          have HB1 := Lib.hid (hb1)
          have l1 := HK.out w1 HB1.out
          obtain ⟨c1_0, c1_1, c1_2, c1_3, c1_4, c1_5, c1_6, c1_7, c1_8, c1_9, c1_10, c1_11⟩ := cells12 (HK.out w1 HB1.out)
          clear hb1
          go_wp2_with fail
          refine (rseq_any x.tx 1 _).mono ?_
          rw [Htx.out]
          rintro e w' ⟨rfl, rfl⟩
          go_wp2_with fail
          refine (rseq_any x.prev 0 _).mono ?_
          rw [Hprev.out]
          rintro e w' ⟨rfl, rfl⟩
          go_wp2_with fail
          refine (rseq_any x.nxt 0 _).mono ?_
          rw [Hnxt.out]
          rintro e w' ⟨rfl, rfl⟩
          go_wp2_with fail
          refine (rnode_any x.coord _).mono ?_
          rw [Hcoord.out]
          rintro e w' ⟨rfl, rfl⟩
          go_wp2_with fail
          go_ret
          exact ⟨by rw [HV.out]; rfl, HX.out.1.trans (HB1.out.mono HX.out.1.size)⟩
        | true =>
          cases fmem : members x.mem with
          | false =>
            have HV := Lib.hid (show Rc.may x.m = false by unfold Rc.may Rc.rest; (try rw [fspare]); simp [m_kind, m_tx, m_prev, m_nxt, m_key, m_old, m_new, m_coord, m_mem, m_locks, fkind, fspare, ftx, fprev, fnxt, fcoord, fmem, g7, g8, g1, g2])
            have Hkind := Lib.hid fkind
            have Hspare := Lib.hid fspare
            have Htx := Lib.hid ftx
            have Hprev := Lib.hid fprev
            have Hnxt := Lib.hid fnxt
            have Hcoord := Lib.hid fcoord
            have Hmem := Lib.hid fmem
            have HK0 := Lib.hid fkind
            clear fkind
            clear fspare
            clear ftx
            clear fprev
            clear fnxt
            clear fcoord
            clear fmem
            have b7 : (x.kind == 7) = false := by rw [beq_eq_false_iff_ne]; exact g7
            have b8 : (x.kind == 8) = false := by rw [beq_eq_false_iff_ne]; exact g8
            have b1 : (x.kind == 1) = false := by rw [beq_eq_false_iff_ne]; exact g1
            have b2 : (x.kind == 2) = false := by rw [beq_eq_false_iff_ne]; exact g2
            clear g7 g8 g1 g2
            have l0 := HK.out _ (Below.refl _ _)
            go_enter Try.func13, Try.ntmps13
            go_wp2_with fail
            refine (rkind_any x.kind _).mono ?_
            rw [Hkind.out]
            rintro e w' ⟨rfl, rfl⟩
            go_wp2_with (refine wpList_load_rec (by rfl) (by rfl) (by rfl) (by assumption) ?_)
            refine (spare_any x HX.out.2.2 HK0.out _).mono ?_
            rw [Hspare.out]
            rintro e w1 ⟨rfl, hb1⟩
            have HB1 := Lib.hid (hb1)
            have l1 := HK.out w1 HB1.out
            obtain ⟨c1_0, c1_1, c1_2, c1_3, c1_4, c1_5, c1_6, c1_7, c1_8, c1_9, c1_10, c1_11⟩ := cells12 (HK.out w1 HB1.out)
            clear hb1
            go_wp2_with fail
            refine (rseq_any x.tx 1 _).mono ?_
            rw [Htx.out]
            rintro e w' ⟨rfl, rfl⟩
            go_wp2_with fail
            refine (rseq_any x.prev 0 _).mono ?_
            rw [Hprev.out]
            rintro e w' ⟨rfl, rfl⟩
            go_wp2_with fail
            refine (rseq_any x.nxt 0 _).mono ?_
            rw [Hnxt.out]
            rintro e w' ⟨rfl, rfl⟩
            go_wp2_with fail
            refine (rnode_any x.coord _).mono ?_
            rw [Hcoord.out]
            rintro e w' ⟨rfl, rfl⟩
            go_wp2_with fail
            refine (rmembers_any x.mA _ x.mc x.mem _ (HX.out.2.1.below HB1.out).mem HX.out.2.2.mem (HX.out.2.1.below HB1.out).mc.2).mono ?_
            rw [Hmem.out]
            rintro e w' ⟨rfl, rfl⟩
            go_wp2_with fail
            go_ret
            exact ⟨by rw [HV.out]; rfl, HX.out.1.trans (HB1.out.mono HX.out.1.size)⟩
          | true =>
            have HV := Lib.hid (show Rc.may x.m = Rc.locks x.locks by unfold Rc.may Rc.rest; (try rw [fspare]); simp [m_kind, m_tx, m_prev, m_nxt, m_key, m_old, m_new, m_coord, m_mem, m_locks, fkind, fspare, ftx, fprev, fnxt, fcoord, fmem, g7, g8, g1, g2])
            have Hkind := Lib.hid fkind
            have Hspare := Lib.hid fspare
            have Htx := Lib.hid ftx
            have Hprev := Lib.hid fprev
            have Hnxt := Lib.hid fnxt
            have Hcoord := Lib.hid fcoord
            have Hmem := Lib.hid fmem
            have HK0 := Lib.hid fkind
            clear fkind
            clear fspare
            clear ftx
            clear fprev
            clear fnxt
            clear fcoord
            clear fmem
            have b7 : (x.kind == 7) = false := by rw [beq_eq_false_iff_ne]; exact g7
            have b8 : (x.kind == 8) = false := by rw [beq_eq_false_iff_ne]; exact g8
            have b1 : (x.kind == 1) = false := by rw [beq_eq_false_iff_ne]; exact g1
            have b2 : (x.kind == 2) = false := by rw [beq_eq_false_iff_ne]; exact g2
            clear g7 g8 g1 g2
            have l0 := HK.out _ (Below.refl _ _)
            go_enter Try.func13, Try.ntmps13
            go_wp2_with fail
            refine (rkind_any x.kind _).mono ?_
            rw [Hkind.out]
            rintro e w' ⟨rfl, rfl⟩
            go_wp2_with (refine wpList_load_rec (by rfl) (by rfl) (by rfl) (by assumption) ?_)
            refine (spare_any x HX.out.2.2 HK0.out _).mono ?_
            rw [Hspare.out]
            rintro e w1 ⟨rfl, hb1⟩
            have HB1 := Lib.hid (hb1)
            have l1 := HK.out w1 HB1.out
            obtain ⟨c1_0, c1_1, c1_2, c1_3, c1_4, c1_5, c1_6, c1_7, c1_8, c1_9, c1_10, c1_11⟩ := cells12 (HK.out w1 HB1.out)
            clear hb1
            go_wp2_with fail
            refine (rseq_any x.tx 1 _).mono ?_
            rw [Htx.out]
            rintro e w' ⟨rfl, rfl⟩
            go_wp2_with fail
            refine (rseq_any x.prev 0 _).mono ?_
            rw [Hprev.out]
            rintro e w' ⟨rfl, rfl⟩
            go_wp2_with fail
            refine (rseq_any x.nxt 0 _).mono ?_
            rw [Hnxt.out]
            rintro e w' ⟨rfl, rfl⟩
            go_wp2_with fail
            refine (rnode_any x.coord _).mono ?_
            rw [Hcoord.out]
            rintro e w' ⟨rfl, rfl⟩
            go_wp2_with fail
            refine (rmembers_any x.mA _ x.mc x.mem _ (HX.out.2.1.below HB1.out).mem HX.out.2.2.mem (HX.out.2.1.below HB1.out).mc.2).mono ?_
            rw [Hmem.out]
            rintro e w' ⟨rfl, rfl⟩
            go_wp2_with fail
            refine (rlocks_any x.lA _ x.lc x.locks _ (HX.out.2.1.below HB1.out).locks HX.out.2.2.locks).mono ?_
            rintro e w2 ⟨rfl, hb2⟩
            have HB2 := Lib.hid (HB1.out.trans (hb2.mono HB1.out.size))
            clear hb2
            go_wp2_with fail
            go_ret
            exact ⟨by rw [HV.out]; rfl, HX.out.1.trans (HB2.out.mono HX.out.1.size)⟩
theorem may_any (x : MD) (w : World) (hx : MOk w x) (hs : Small x) : Calls Try.prog 13 #[mVal x] w fun e w' => e = .returned (.bool (Rc.may x.m)) ∧ Below w.heap.size w w' := by
  cases fkind : Rc.kindOk x.kind with
  | false => exact may_bad x w hx hs fkind
  | true =>
    cases fspare : Rc.spare x.m with
    | true => exact may_spare x w hx hs fkind fspare
    | false =>
      by_cases g7 : x.kind = 7
      · cases ft : (x.tx == 0) with
        | false => exact may_7t x w hx hs fkind fspare g7 ft
        | true => exact may_7 x w hx hs fkind fspare g7 ft
      by_cases g8 : x.kind = 8
      · cases ft : (x.tx == 0) with
        | false => exact may_8t x w hx hs fkind fspare g8 ft
        | true => exact may_8 x w hx hs fkind fspare g8 ft
      by_cases g1 : x.kind = 1
      · exact may_1 x w hx hs fkind fspare g1
      by_cases g2 : x.kind = 2
      · exact may_2 x w hx hs fkind fspare g2
      exact may_o x w hx hs fkind fspare g7 g8 g1 g2
end Go.Proofs.Ytlijfnekopjogaa
