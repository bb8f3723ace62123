/- MasterCrashes: records that are saved with one Gen more each time: wherever the power goes, whatever was torn, the last one that was answered OK is loaded, or the one that was under way; no condition. -/
import Derived.Test.YtfcmlfcpgboigaaMasterDX
import Derived.Test.YtfcmlfcpgboigaaLift
namespace Go.Proofs.Ytfcmlfcpgboigaa.masterCrashes
open Go.ChangeShapes Go.WideShapes Go.ChangeAt Go.RowKit Mem Lift
set_option linter.unusedVariables false
set_option linter.unusedSimpArgs false
set_option maxRecDepth 100000
attribute [local go_sem ↓] Go.wp_at_zero Go.wp_at_succ

abbrev sCells (x : SavedD) : Array Value := #[.int .i64 x.inc, .int .i64 x.first, .int .i64 x.lsn, .int .i64 x.check, .int .i64 x.fuse, .slice x.kA x.kn x.kc, .bool x.torn, .int .i64 x.cut]
theorem DX.fr {w0 w w' : World} {p : Nat} {d : Dk.D} {X F : Nat → Prop} {b : Nat} (h : DX w0 w p d X F) (hf : Fr (fun k => k = b) w w') (hX : X b) (hge : w0.heap.size ≤ b) : DX w0 w' p d X F :=
  ⟨h.at_.keep hf.size (fun k hk => hf.block k (h.at_.bound k hk) (fun e => h.ne k hk (by rw [e]; exact hX))), h.ge, h.ne, fun k hk => Nat.lt_of_lt_of_le (h.lt k hk) hf.size, h.below.trans (hf.below h.below.size (fun i e => by subst e; exact hge))⟩
/-- one store of a record -/
theorem put5 {w : World} {b : Nat} {m : Ms.M} (h : Blk w b 48 (mCells m)) (n : Ms.M) :
    Blk (((((w.setCell ⟨b, 0, none⟩ (.int .i64 n.gen)).setCell ⟨b, 1, none⟩ (.int .i64 n.inc)).setCell ⟨b, 2, none⟩ (.int .i64 n.first)).setCell ⟨b, 3, none⟩ (.int .i64 n.lsn)).setCell ⟨b, 4, none⟩ (.int .i64 n.check)) b 48 (mCells n) ∧
      Fr (fun k => k = b) w (((((w.setCell ⟨b, 0, none⟩ (.int .i64 n.gen)).setCell ⟨b, 1, none⟩ (.int .i64 n.inc)).setCell ⟨b, 2, none⟩ (.int .i64 n.first)).setCell ⟨b, 3, none⟩ (.int .i64 n.lsn)).setCell ⟨b, 4, none⟩ (.int .i64 n.check)) :=
  ⟨((((h.put 0 (.int .i64 n.gen)).put 1 (.int .i64 n.inc)).put 2 (.int .i64 n.first)).put 3 (.int .i64 n.lsn)).put 4 (.int .i64 n.check), (((((Fr.refl (fun k => k = b) w).setCell ⟨b, 0, none⟩ _ (fun _ => rfl)).setCell ⟨b, 1, none⟩ _ (fun _ => rfl)).setCell ⟨b, 2, none⟩ _ (fun _ => rfl)).setCell ⟨b, 3, none⟩ _ (fun _ => rfl)).setCell ⟨b, 4, none⟩ _ (fun _ => rfl)⟩
/-- the disk, the last record, what is to be done, the new record -/
def Mem3 (w0 : World) (p lb rc mb : Nat) (d : Dk.D) (last : Ms.M) (x : SavedD) (m : Ms.M) (w : World) : Prop :=
  ∃ F, DX w0 w p d (fun k => k = lb ∨ k = rc ∨ k = mb) F ∧ Blk w lb 48 (mCells last) ∧ Blk w rc 71 (sCells x) ∧ Blk w mb 48 (mCells m) ∧ w0.heap.size ≤ lb ∧ lb ≠ rc ∧ lb ≠ mb
section
variable {w0 w w' : World} {p p' lb rc mb : Nat} {d d' : Dk.D} {last n m : Ms.M} {x : SavedD}
theorem Mem3.below (h : Mem3 w0 p lb rc mb d last x m w) (hb : Below w.heap.size w w') : Mem3 w0 p lb rc mb d last x m w' := by
  obtain ⟨F, h1, h2, h3, h4, h5⟩ := h
  exact ⟨F, (h1.grow hb).1, h2.below hb h2.lt, h3.below hb h3.lt, h4.below hb h4.lt, h5⟩
theorem Mem3.old (h : Mem3 w0 p lb rc mb d last x m w) : Below w0.heap.size w0 w := by
  obtain ⟨F, h1, _⟩ := h
  exact h1.below
theorem Mem3.turn {P : Ending → Prop} {f : Nat} {args : Array Value} (h : Mem3 w0 p lb rc mb d last x m w) (hc : ∀ F, DX w0 w p d (fun k => k = lb ∨ k = rc ∨ k = mb) F → Calls Try.prog f args w fun e w' => P e ∧ ∃ F', DX w0 w' p' d' (fun k => k = lb ∨ k = rc ∨ k = mb) F' ∧ ∀ k, (k = lb ∨ k = rc ∨ k = mb) → w'.heap[k]? = w.heap[k]?) :
    Calls Try.prog f args w fun e w' => P e ∧ Mem3 w0 p' lb rc mb d' last x m w' := by
  obtain ⟨F, h1, h2, h3, h4, h5⟩ := h
  refine (hc F h1).mono ?_
  rintro e w' ⟨hP, F', g1, g2⟩
  exact ⟨hP, F', g1, h2.keep (g2 _ (.inl rfl)), h3.keep (g2 _ (.inr (.inl rfl))), h4.keep (g2 _ (.inr (.inr rfl))), h5⟩
theorem Mem3.put (h : Mem3 w0 p lb rc mb d last x m w) (n : Ms.M) : Mem3 w0 p lb rc mb d n x m (((((w.setCell ⟨lb, 0, none⟩ (.int .i64 n.gen)).setCell ⟨lb, 1, none⟩ (.int .i64 n.inc)).setCell ⟨lb, 2, none⟩ (.int .i64 n.first)).setCell ⟨lb, 3, none⟩ (.int .i64 n.lsn)).setCell ⟨lb, 4, none⟩ (.int .i64 n.check)) := by
  obtain ⟨F, h1, h2, h3, h4, h5, h6, h7⟩ := h
  obtain ⟨g1, g2⟩ := put5 h2 n
  exact ⟨F, DX.fr h1 g2 (.inl rfl) h5, g1, h3.keep (g2.block _ h3.lt (fun e => h6 e.symm)), h4.keep (g2.block _ h4.lt (fun e => h7 e.symm)), h5, h6, h7⟩
theorem Mem3.lastc (h : Mem3 w0 p lb rc mb d last x m w) : (w.cell? ⟨lb, 0, none⟩ = some (.int .i64 last.gen) ∧ w.cell? ⟨lb, 1, none⟩ = some (.int .i64 last.inc) ∧ w.cell? ⟨lb, 2, none⟩ = some (.int .i64 last.first) ∧ w.cell? ⟨lb, 3, none⟩ = some (.int .i64 last.lsn) ∧ w.cell? ⟨lb, 4, none⟩ = some (.int .i64 last.check)) ∧
    w.frozen? ⟨lb, 0, none⟩ = false ∧ w.frozen? ⟨lb, 1, none⟩ = false ∧ w.frozen? ⟨lb, 2, none⟩ = false ∧ w.frozen? ⟨lb, 3, none⟩ = false ∧ w.frozen? ⟨lb, 4, none⟩ = false := by
  obtain ⟨F, h1, h2, h3, h4, h5⟩ := h
  exact ⟨⟨h2.cell 0, h2.cell 1, h2.cell 2, h2.cell 3, h2.cell 4⟩, h2.free 0, h2.free 1, h2.free 2, h2.free 3, h2.free 4⟩
theorem Mem3.newc (h : Mem3 w0 p lb rc mb d last x m w) : w.cell? ⟨mb, 0, none⟩ = some (.int .i64 m.gen) ∧ w.cell? ⟨mb, 1, none⟩ = some (.int .i64 m.inc) ∧ w.cell? ⟨mb, 2, none⟩ = some (.int .i64 m.first) ∧ w.cell? ⟨mb, 3, none⟩ = some (.int .i64 m.lsn) ∧ w.cell? ⟨mb, 4, none⟩ = some (.int .i64 m.check) := by
  obtain ⟨F, h1, h2, h3, h4, h5⟩ := h
  exact ⟨h4.cell 0, h4.cell 1, h4.cell 2, h4.cell 3, h4.cell 4⟩
theorem Mem3.savedc (h : Mem3 w0 p lb rc mb d last x m w) : w.cell? ⟨rc, 4, none⟩ = some (.int .i64 x.fuse) ∧ w.cell? ⟨rc, 5, none⟩ = some (.slice x.kA x.kn x.kc) ∧ w.cell? ⟨rc, 6, none⟩ = some (.bool x.torn) ∧ w.cell? ⟨rc, 7, none⟩ = some (.int .i64 x.cut) := by
  obtain ⟨F, h1, h2, h3, h4, h5⟩ := h
  exact ⟨h3.cell 4, h3.cell 5, h3.cell 6, h3.cell 7⟩
theorem mem3_crash (h : Mem3 w0 p lb rc mb d last x m w) (hok : Dk.Ok d) (AK : Option Addr) (nk ck : Nat) (ks : List Int) (torn : Bool) (cut : Int) (hK : IS w AK nk ks) (hnk : nk ≤ 1000000) (hpl : d.pend.length ≤ 1000000) :
    Calls Try.prog 42 #[.pointer (some ⟨p, 0, none⟩), .agg #[.slice AK nk ck, .bool torn, .int .i64 cut]] w fun e w' => ∃ y, e = .returned (.pointer (some ⟨y, 0, none⟩)) ∧ Mem3 w0 y lb rc mb (Dk.crash d ks torn cut) last x m w' := by
  obtain ⟨F, h1, h2, h3, h4, h5⟩ := h
  refine (dx_crash h1 hok AK nk ck ks torn cut hK hnk hpl).mono ?_
  rintro e w' ⟨y, F', rfl, g1, g2⟩
  exact ⟨y, rfl, F', g1, h2.keep (g2 _ (.inl rfl)), h3.keep (g2 _ (.inr (.inl rfl))), h4.keep (g2 _ (.inr (.inr rfl))), h5⟩
theorem mem3_load (h : Mem3 w0 p lb rc mb d last x m w) {k : Nat} {n : Ms.M} (ha : Ms.At k d n) : Calls Try.prog 28 #[.pointer (some ⟨p, 0, none⟩)] w fun e w' => e = .returned (.tuple #[.agg #[.int .i64 n.gen, .int .i64 n.inc, .int .i64 n.first, .int .i64 n.lsn, .int .i64 n.check], .int .i64 0]) ∧ Below w.heap.size w w' := by
  obtain ⟨F, h1, h2, h3, h4, h5⟩ := h
  have := dx_load h1 ha.q.ok
  rw [ha.load] at this
  exact this
end
/-- at the head of the loop -/
def St (w0 : World) (lb i : Nat) (v : Value) (w : World) : Prop := ∃ p d F last, v = .pointer (some ⟨p, 0, none⟩) ∧ Ms.At (i + 1) d last ∧ DX w0 w p d (fun k => k = lb) F ∧ Blk w lb 48 (mCells last) ∧ w0.heap.size ≤ lb
/-- behind the save, and the fall -/
def Aft (w0 : World) (lb rc mb i : Nat) (e : Nat) (last : Ms.M) (x : SavedD) (m : Ms.M) (v : Value) (w : World) : Prop :=
  ∃ p d n l, v = .pointer (some ⟨p, 0, none⟩) ∧ Ms.At (i + 1 + 1) d n ∧ (n = m ∨ n = l ∧ e ≠ 0 ∧ l = last) ∧ Mem3 w0 p lb rc mb d l x m w
theorem at_more {k : Nat} {d : Dk.D} {last : Ms.M} (h : Ms.At k d last) : Ms.At (k + 1) d last := ⟨Dk.q_more h.q, h.may, h.here, h.old⟩
theorem Mem3.st {w0 w : World} {p lb rc mb i : Nat} {d : Dk.D} {last m : Ms.M} {x : SavedD} (h : Mem3 w0 p lb rc mb d last x m w) (ha : Ms.At (i + 1) d last) : St w0 lb (i + 1) (.pointer (some ⟨p, 0, none⟩)) w := by
  obtain ⟨F, h1, h2, h3, h4, h5, _⟩ := h
  exact ⟨p, d, F, last, rfl, at_more ha, h1.less (fun k e => .inl e), h2, h5⟩
theorem Mem3.st2 {w0 w : World} {p lb rc mb i : Nat} {d : Dk.D} {last m : Ms.M} {x : SavedD} (h : Mem3 w0 p lb rc mb d last x m w) (ha : Ms.At (i + 1) d last) : St w0 lb i (.pointer (some ⟨p, 0, none⟩)) w := by
  obtain ⟨F, h1, h2, h3, h4, h5, _⟩ := h
  exact ⟨p, d, F, last, rfl, ha, h1.less (fun k e => .inl e), h2, h5⟩
set_option maxHeartbeats 16000000 in
theorem walk_main (A : Option Addr) (m cap : Nat) (l : List SavedD) (w : World) (hl : ST savedK w A m l) (hmc : m ≤ cap) (hcm : cap ≤ maxLen) (hm40 : m ≤ 40) :
    Calls Try.prog 9 #[.slice A m cap] w fun e w' => e = .returned (.bool true) ∧ Below w.heap.size w w' := by
  unfold maxLen at hcm
  have hd40 : decide (40 < (m : Int)) = false := by simp; omega
  have hs0 : Ms.save (Dk.new 2) ⟨1, 0, 0, 0, 0⟩ = (0, Dk.kept (Dk.new 2) 1 (Ms.body ⟨1, 0, 0, 0, 0⟩)) := Ms.save_q (Dk.q_new 2 (by omega)) (by omega) _ (by decide)
  have HL := Lib.hid (And.intro hl (And.intro hs0 Ms.at_new))
  clear hl hs0
  obtain ⟨i0, hi0, hz0, hz1, hz2⟩ := info_parts oinfoI
  have HI := Lib.hid (And.intro hi0 (And.intro hz0 (And.intro hz1 hz2)))
  clear hi0 hz0 hz1 hz2
  go_enter Try.func9, Try.ntmps9
  go_wp2_with fail
  refine (new_any 2 (by omega) w).mono ?_
  rintro e w1 ⟨p, rfl, hb1, F1, hd1, hg1⟩
  have hx1 : DX w w1 p (Dk.new 2) (fun _ => False) F1 := ⟨hd1, hg1, fun _ _ h => h, fun _ h => h.elim, hb1⟩
  have H1 := Lib.hid hx1
  clear hb1 hd1 hg1 hx1
  go_wp2_with fail
  refine (dx_save H1.out ⟨1, 0, 0, 0, 0⟩ (Dk.new_ok 2 (by omega)) (by simp [Dk.new]) (by simp [Dk.new])).mono ?_
  rw [HL.out.2.1]
  rintro e w2 ⟨rfl, F2, hx2, _⟩
  have H2 := Lib.hid (show St w w2.heap.size 0 (.pointer (some ⟨p, 0, none⟩)) (w2.alloc (.cells #[.int .i64 1, .int .i64 0, .int .i64 0, .int .i64 0, .int .i64 0] 48)) from
    ⟨p, _, F2, ⟨1, 0, 0, 0, 0⟩, rfl, HL.out.2.2, hx2.more ((Below.refl _ _).alloc (Nat.le_refl _) _) (fun k e => .inr (by subst e; simp)), Blk.new _ _ _, hx2.below.size⟩)
  clear hx2 H1
  go_wp2_with fail
  generalize w2.alloc (.cells #[.int .i64 1, .int .i64 0, .int .i64 0, .int .i64 0, .int .i64 0] 48) = w3 at *
  generalize w2.heap.size = lb at *
  go_loopg [3, 6] m (fun gk s3 s6 wr => ∃ (i : Nat), i ≤ m ∧ gk = m - i ∧ s6 = .int .i64 i ∧ St w lb i s3 wr)
  case atStart => exact ⟨0, by omega, by omega, rfl, H2.out⟩
  case round =>
    obtain ⟨i, hi, rfl, rfl, p, d, F, last, rfl, hA, hX, hlb, hge⟩ := hrel
    clear H2
    by_cases hlt : i < m
    · obtain ⟨b, off, rfl, hbl, hcs, hok⟩ := saved_at (HL.out.1.below hX.below) hlt
      have hxk0 : IS w (l.getD i savedK.zero).kA (l.getD i savedK.zero).kn (l.getD i savedK.zero).keep := by
        obtain ⟨_, _, _, _, _, h⟩ := saved_at HL.out.1 hlt
        exact h.2.1
      generalize l.getD i savedK.zero = x at *
      obtain ⟨hxi, hxk, hxn, hxc⟩ := hok
      have c0 := hcs 0 (by omega)
      have c1 := hcs 1 (by omega)
      have c2 := hcs 2 (by omega)
      have c3 := hcs 3 (by omega)
      have c4 := hcs 4 (by omega)
      have c5 := hcs 5 (by omega)
      have c6 := hcs 6 (by omega)
      have c7 := hcs 7 (by omega)
      simp only [savedK, Nat.add_zero, List.getElem?_cons_zero, List.getElem?_cons_succ] at c0 c1 c2 c3 c4 c5 c6 c7
      have him : (i : Int) < (m : Int) := by omega
      have hgen := Ms.may_gen hA.may
      have hg1 : -9223372036854775808 ≤ last.gen + 1 := by omega
      have hg2 : last.gen + 1 ≤ 9223372036854775807 := by omega
      have hk0 := hlb.cell 0
      simp only [mCells] at hk0
      have hmem : Mem3 w p lb wr.heap.size (wr.heap.size + 1) d last x ⟨last.gen + 1, x.inc, x.first, x.lsn, x.check⟩ ((wr.alloc (.cells (sCells x) 71)).alloc (.cells (mCells ⟨last.gen + 1, x.inc, x.first, x.lsn, x.check⟩) 48)) := by
        have hbb : Below wr.heap.size wr ((wr.alloc (.cells (sCells x) 71)).alloc (.cells (mCells ⟨last.gen + 1, x.inc, x.first, x.lsn, x.check⟩) 48)) := ((Below.refl _ _).alloc (Nat.le_refl _) _).alloc (by simp) _
        have hl := hlb.lt
        refine ⟨F, hX.more hbb (fun k e => ?_), hlb.below hbb hl, (Blk.new wr _ _).alloc _, ?_, hge, by omega, by omega⟩
        · rcases e with e | e | e
          · exact .inl e
          · exact .inr (by simp; omega)
          · exact .inr (by simp; omega)
        · have := Blk.new (wr.alloc (.cells (sCells x) 71)) 48 (mCells ⟨last.gen + 1, x.inc, x.first, x.lsn, x.check⟩)
          rw [show (wr.alloc (.cells (sCells x) 71)).heap.size = wr.heap.size + 1 by simp] at this
          exact this
      have hK4 := hxk0
      have hF64 : x.fuse ≤ 9223372036854775807 := hxi.2.2.2.2.1.2
      dsimp only [sCells, mCells] at hmem
      have HB := Lib.hid (And.intro hA (And.intro hmem (And.intro hF64 hK4)))
      have hlw : lb < wr.heap.size := hlb.lt
      clear hA hmem hX hxi hxk hxn hxc hlb hcs hge hF64 hK4 hxk0
      go_wp2_with fail
      generalize (wr.alloc (.cells #[.int .i64 x.inc, .int .i64 x.first, .int .i64 x.lsn, .int .i64 x.check, .int .i64 x.fuse, .slice x.kA x.kn x.kc, .bool x.torn, .int .i64 x.cut] 71)).alloc (.cells #[.int .i64 (last.gen + 1), .int .i64 x.inc, .int .i64 x.first, .int .i64 x.lsn, .int .i64 x.check] 48) = w4 at *
      obtain ⟨mm, hmm⟩ : ∃ mm : Ms.M, mm = ⟨last.gen + 1, x.inc, x.first, x.lsn, x.check⟩ := ⟨_, rfl⟩
      have HS := Lib.hid (show Mem3 w p lb wr.heap.size (wr.heap.size + 1) d last x mm w4 from by rw [hmm]; exact HB.out.2.1)
      have HP := Lib.hid (And.intro HB.out.1 (And.intro HB.out.2.2.1 HB.out.2.2.2))
      have hmy := fun W => ref06may_any mm W
      unfold mVal mCells at hmy
      rw [show mm.gen = last.gen + 1 by rw [hmm], show mm.inc = x.inc by rw [hmm], show mm.first = x.first by rw [hmm], show mm.lsn = x.lsn by rw [hmm], show mm.check = x.check by rw [hmm]] at hmy
      have HY := Lib.hid (And.intro hmm hmy)
      generalize wr.heap.size + 1 = mb at *
      generalize wr.heap.size = rc at *
      clear HB c0 c1 c2 c3 c4 c5 c6 c7 hk0 hmm hmy hlw hbl
      have hs := HS.out.savedc
      have c5 := hs.2.1
      have hnc := HS.out.newc
      rw [show mm.gen = last.gen + 1 by rw [HY.out.1], show mm.inc = x.inc by rw [HY.out.1], show mm.first = x.first by rw [HY.out.1], show mm.lsn = x.lsn by rw [HY.out.1], show mm.check = x.check by rw [HY.out.1]] at hnc
      obtain ⟨n0, n1, n2, n3, n4⟩ := hnc
      clear hs
      go_wp2_with fail
      refine (HY.out.2 w4).mono ?_
      cases hmay : Ms.may mm with
      | false =>
        rintro e w5 ⟨rfl, hb5⟩
        have H5 := Lib.hid ((HS.out.below hb5).st HP.out.1)
        clear hb5
        go_wp2_with fail
        go_roundg (m - (i + 1))
        case measure => omega
        case rel => exact ⟨i + 1, by omega, rfl, by go_num, H5.out⟩
      | true =>
        rintro e w5 ⟨rfl, hb5⟩
        have H5 := Lib.hid (And.intro (HS.out.below hb5) trivial)
        have hs := H5.out.1.savedc
        have k4 := hs.1
        have k5 := hs.2.1
        have HM := Lib.hid hmay
        clear hb5 hs HS hmay c5 n0 n1 n2 n3 n4
        by_cases hk10 : 10 < x.kn
        · have hkd : decide (10 < (x.kn : Int)) = true := by simp; omega
          go_wp2_with fail
          go_roundg (m - (i + 1))
          case measure => omega
          case rel => exact ⟨i + 1, by omega, rfl, by go_num, H5.out.1.st HP.out.1⟩
        · have hkd : decide (10 < (x.kn : Int)) = false := by simp; omega
          go_wp2_with fail
          obtain ⟨er, r, hsv, hdn, hrk, hrp, hf1, hf2⟩ := Ms.fall HP.out.1 HM.out (show mm.gen = last.gen + 1 by rw [HY.out.1]) x.fuse HP.out.2.1 x.keep x.torn x.cut
          have hfk := Dk.fused_ok HP.out.1.q.ok x.fuse HP.out.2.1
          have hfp : (Dk.fused d x.fuse).pend.length ≤ 999999 := by show d.pend.length ≤ _; rw [HP.out.1.q.pend]; simp
          have hfy : (Dk.fused d x.fuse).syncs ≤ 999999 := by have := HP.out.1.q.syncs; show d.syncs ≤ _; omega
          have HV := Lib.hid (And.intro hsv (And.intro hrk (And.intro hrp (And.intro hf1 (And.intro hf2 (And.intro hfk (And.intro hfp hfy)))))))
          clear hsv hrk hrp hf1 hf2 hfk hfp hfy
          refine (Mem3.turn H5.out.1 (fun F hX => dx_fuse hX x.fuse)).mono ?_
          rintro e w6 ⟨rfl, hm6⟩
          have H6 := Lib.hid hm6
          have hnc := hm6.newc
          rw [show mm.gen = last.gen + 1 by rw [HY.out.1], show mm.inc = x.inc by rw [HY.out.1], show mm.first = x.first by rw [HY.out.1], show mm.lsn = x.lsn by rw [HY.out.1], show mm.check = x.check by rw [HY.out.1]] at hnc
          obtain ⟨n0, n1, n2, n3, n4⟩ := hnc
          clear hm6 k4 k5 hkd
          go_wp2_with fail
          have hsave := Mem3.turn H6.out (fun F hX => dx_save hX mm HV.out.2.2.2.2.2.1 HV.out.2.2.2.2.2.2.1 HV.out.2.2.2.2.2.2.2)
          unfold mVal mCells at hsave
          rw [show mm.gen = last.gen + 1 by rw [HY.out.1], show mm.inc = x.inc by rw [HY.out.1], show mm.first = x.first by rw [HY.out.1], show mm.lsn = x.lsn by rw [HY.out.1], show mm.check = x.check by rw [HY.out.1], HV.out.1] at hsave
          refine hsave.mono ?_
          clear hsave
          rintro e w7 ⟨rfl, hm7⟩
          have H7 := Lib.hid hm7
          clear hm7 n0 n1 n2 n3 n4
          rcases hdn with ⟨her, hdn⟩ | ⟨her, hdn⟩
          · by_cases hF : x.fuse < 0
            · have hfd : decide (x.fuse < 0) = true := by simpa using hF
              have e1 : ((er : Int) == 0) = true := by rw [her]; rfl
              have e2 : ((er : Int) != 0) = false := by rw [her]; rfl
              have e3 : ((er : Int) == 40) = false := by rw [her]; rfl
              have e4 : ((er : Int) != 40) = true := by rw [her]; rfl
              have HE := Lib.hid her
              have HF := Lib.hid hF
              clear her hF
              go_wp2_with fail
              have HD := Lib.hid hdn
              clear hdn
              have hdown : Calls Try.prog 41 #[.pointer (some ⟨p, 0, none⟩)] w7 fun e w' => e = .returned (.bool r.down) ∧ w' = w7 := by
                obtain ⟨F, hX, _⟩ := H7.out
                exact dx_down hX
              rw [HD.out] at hdown
              refine hdown.mono ?_
              clear hdown
              rintro e w8 ⟨rfl, rfl⟩
              have c4 := H7.out.savedc.1
              have HC := Lib.hid (And.intro H7.out.savedc.2.1 (And.intro H7.out.savedc.2.2.1 H7.out.savedc.2.2.2))
              have hlc := H7.out.lastc
              have hnc := H7.out.newc
              rw [show mm.gen = last.gen + 1 by rw [HY.out.1], show mm.inc = x.inc by rw [HY.out.1], show mm.first = x.first by rw [HY.out.1], show mm.lsn = x.lsn by rw [HY.out.1], show mm.check = x.check by rw [HY.out.1]] at hnc
              obtain ⟨n0, n1, n2, n3, n4⟩ := hnc
              obtain ⟨⟨l0, l1, l2, l3, l4⟩, f0, f1, f2, f3, f4⟩ := hlc
              have hput := H7.out.put mm
              rw [show mm.gen = last.gen + 1 by rw [HY.out.1], show mm.inc = x.inc by rw [HY.out.1], show mm.first = x.first by rw [HY.out.1], show mm.lsn = x.lsn by rw [HY.out.1], show mm.check = x.check by rw [HY.out.1]] at hput
              have HR := Lib.hid (And.intro (HV.out.2.2.2.1 HE.out HF.out) hput)
              clear hput
              go_wp2_with fail
              generalize ((((w8.setCell ⟨lb, 0, none⟩ (Value.int .i64 (last.gen + 1))).setCell ⟨lb, 1, none⟩ (Value.int .i64 x.inc)).setCell ⟨lb, 2, none⟩ (Value.int .i64 x.first)).setCell ⟨lb, 3, none⟩ (Value.int .i64 x.lsn)).setCell ⟨lb, 4, none⟩ (Value.int .i64 x.check) = w9 at *
              clear n0 n1 n2 n3 n4 l0 l1 l2 l3 l4 f0 f1 f2 f3 f4 c4
              go_wp2_with fail
              have hld := mem3_load (HR.out.2) (HR.out.1)
              rw [show mm.gen = last.gen + 1 by rw [HY.out.1], show mm.inc = x.inc by rw [HY.out.1], show mm.first = x.first by rw [HY.out.1], show mm.lsn = x.lsn by rw [HY.out.1], show mm.check = x.check by rw [HY.out.1]] at hld
              refine hld.mono ?_
              clear hld
              rintro e w11 ⟨rfl, hb11⟩
              have hm11 := (HR.out.2).below hb11
              obtain ⟨⟨l0, l1, l2, l3, l4⟩, f0, f1, f2, f3, f4⟩ := hm11.lastc
              have hnc := hm11.newc
              rw [show mm.gen = last.gen + 1 by rw [HY.out.1], show mm.inc = x.inc by rw [HY.out.1], show mm.first = x.first by rw [HY.out.1], show mm.lsn = x.lsn by rw [HY.out.1], show mm.check = x.check by rw [HY.out.1]] at hnc
              obtain ⟨n0, n1, n2, n3, n4⟩ := hnc
              have hlb : lb < w11.heap.size := by obtain ⟨F, _, h2, _⟩ := hm11; exact h2.lt
              have hmb : mb < w11.heap.size := by obtain ⟨F, _, _, _, h2, _⟩ := hm11; exact h2.lt
              have hfin := ((hm11.put mm).below ((Below.refl _ _).alloc (Nat.le_refl _) (.cells #[.int .i64 (last.gen + 1), .int .i64 x.inc, .int .i64 x.first, .int .i64 x.lsn, .int .i64 x.check] 48))).st2 (HR.out.1)
              rw [show mm.gen = last.gen + 1 by rw [HY.out.1], show mm.inc = x.inc by rw [HY.out.1], show mm.first = x.first by rw [HY.out.1], show mm.lsn = x.lsn by rw [HY.out.1], show mm.check = x.check by rw [HY.out.1]] at hfin
              have HZ := Lib.hid hfin
              clear hb11 hm11 hfin
              go_wp2_with fail
              go_roundg (m - (i + 1))
              case measure => omega
              case rel => exact ⟨i + 1, by omega, rfl, by go_num, HZ.out⟩
            · have hfd : decide (x.fuse < 0) = false := by simpa using hF
              have e1 : ((er : Int) == 0) = true := by rw [her]; rfl
              have e2 : ((er : Int) != 0) = false := by rw [her]; rfl
              have e3 : ((er : Int) == 40) = false := by rw [her]; rfl
              have e4 : ((er : Int) != 40) = true := by rw [her]; rfl
              have HE := Lib.hid her
              have HF := Lib.hid hF
              clear her hF
              go_wp2_with fail
              have HD := Lib.hid hdn
              clear hdn
              have hdown : Calls Try.prog 41 #[.pointer (some ⟨p, 0, none⟩)] w7 fun e w' => e = .returned (.bool r.down) ∧ w' = w7 := by
                obtain ⟨F, hX, _⟩ := H7.out
                exact dx_down hX
              rw [HD.out] at hdown
              refine hdown.mono ?_
              clear hdown
              rintro e w8 ⟨rfl, rfl⟩
              have c4 := H7.out.savedc.1
              have HC := Lib.hid (And.intro H7.out.savedc.2.1 (And.intro H7.out.savedc.2.2.1 H7.out.savedc.2.2.2))
              have k5 := HC.out.1
              have k6 := HC.out.2.1
              have k7 := HC.out.2.2
              have HS : w8.cell? ⟨rc, 5, none⟩ = some (.slice x.kA x.kn x.kc) ∧ w8.cell? ⟨rc, 6, none⟩ = some (.bool x.torn) ∧ w8.cell? ⟨rc, 7, none⟩ = some (.int .i64 x.cut) := ⟨k5, k6, k7⟩
              have hblkE : ((w8.alloc (.cells #[] 3)).drew).heap[w8.heap.size]? = some (.cells #[] 3 (0, 0)) := heap_alloc_new w8 _
              have hisE : IS ((w8.alloc (.cells #[] 3)).drew) x.kA x.kn x.keep := HP.out.2.2.below (H7.out.old.trans (((Below.refl _ _).alloc (Nat.le_refl _) _).drew.mono H7.out.old.size))
              have HE2 := Lib.hid (And.intro hblkE hisE)
              clear hblkE hisE k5 k6 k7
              go_upto_region 19 with fail
              go_region_held3 (fun w' => w'.cell? ⟨rc, 5, none⟩ = some (.slice x.kA x.kn x.kc) ∧ w'.cell? ⟨rc, 6, none⟩ = some (.bool x.torn) ∧ w'.cell? ⟨rc, 7, none⟩ = some (.int .i64 x.cut)) ((first | exact HS | exact ⟨cell_alloc_some' _ HS.1, cell_alloc_some' _ HS.2.1, cell_alloc_some' _ HS.2.2⟩)) (first
                | (refine step_app_ints (by rfl) (.tmp 86) (.tmp 89) 67 (by rfl) 3 i0 Try.underlying67 HI.out.1 HI.out.2.1 HI.out.2.2.1 HI.out.2.2.2 w8.heap.size (by simp [Act.eval, Act.put]) HE2.out.1 x.kA x.kn x.kc x.keep (by simp [Act.eval, Act.put]) HE2.out.2 (by omega) ?_
                   intro A3 c3 w9 hown3 hg3
                   have hb9 : Below w8.heap.size w8 w9 := (((Below.refl _ w8).alloc (Nat.le_refl _) (.cells #[] 3)).drew).grown hg3 (by show _ ≤ (w8.alloc _).heap.size; simp) (fun k e => by cases e; exact Nat.le_refl _)
                   have hm9 := H7.out.below hb9
                   have HS : w9.cell? ⟨rc, 5, none⟩ = some (.slice x.kA x.kn x.kc) ∧ w9.cell? ⟨rc, 6, none⟩ = some (.bool x.torn) ∧ w9.cell? ⟨rc, 7, none⟩ = some (.int .i64 x.cut) := hm9.savedc.2
                   have H9 := Lib.hid (And.intro hm9 (IS.of_own hown3))
                   clear hown3 hg3 hb9 hm9)
                | (go_at_call 42; go_must (refine (mem3_crash H9.out.1 HV.out.2.1 A3 x.kn c3 x.keep x.torn x.cut H9.out.2 (by omega) (by have := HV.out.2.2.1; omega)).mono ?_; rintro e w10 ⟨y, rfl, h10⟩; have HS := h10.savedc.2; have H10 := Lib.hid h10; clear h10)))
              all_goals
                obtain ⟨n, hn1, hn2⟩ := HV.out.2.2.2.2.1 (fun h => by have := HF.out; omega)
                rcases hn2 with hn3 | ⟨hn3, hn2⟩
                · rw [hn3] at hn1
                  have HN := Lib.hid hn1
                  clear hn1 hn3
                  go_wp2_with fail
                  have hld := mem3_load (H10.out) (HN.out)
                  rw [show mm.gen = last.gen + 1 by rw [HY.out.1], show mm.inc = x.inc by rw [HY.out.1], show mm.first = x.first by rw [HY.out.1], show mm.lsn = x.lsn by rw [HY.out.1], show mm.check = x.check by rw [HY.out.1]] at hld
                  refine hld.mono ?_
                  clear hld
                  rintro e w11 ⟨rfl, hb11⟩
                  have hm11 := (H10.out).below hb11
                  obtain ⟨⟨l0, l1, l2, l3, l4⟩, f0, f1, f2, f3, f4⟩ := hm11.lastc
                  have hnc := hm11.newc
                  rw [show mm.gen = last.gen + 1 by rw [HY.out.1], show mm.inc = x.inc by rw [HY.out.1], show mm.first = x.first by rw [HY.out.1], show mm.lsn = x.lsn by rw [HY.out.1], show mm.check = x.check by rw [HY.out.1]] at hnc
                  obtain ⟨n0, n1, n2, n3, n4⟩ := hnc
                  have hlb : lb < w11.heap.size := by obtain ⟨F, _, h2, _⟩ := hm11; exact h2.lt
                  have hmb : mb < w11.heap.size := by obtain ⟨F, _, _, _, h2, _⟩ := hm11; exact h2.lt
                  have hfin := ((hm11.put mm).below ((Below.refl _ _).alloc (Nat.le_refl _) (.cells #[.int .i64 (last.gen + 1), .int .i64 x.inc, .int .i64 x.first, .int .i64 x.lsn, .int .i64 x.check] 48))).st2 (HN.out)
                  rw [show mm.gen = last.gen + 1 by rw [HY.out.1], show mm.inc = x.inc by rw [HY.out.1], show mm.first = x.first by rw [HY.out.1], show mm.lsn = x.lsn by rw [HY.out.1], show mm.check = x.check by rw [HY.out.1]] at hfin
                  have HZ := Lib.hid hfin
                  clear hb11 hm11 hfin
                  go_wp2_with fail
                  go_roundg (m - (i + 1))
                  case measure => omega
                  case rel => exact ⟨i + 1, by omega, rfl, by go_num, HZ.out⟩
                · exact absurd HE.out hn2
          · have hF : True := trivial
            have e1 : ((er : Int) == 0) = false := by rw [her]; rfl
            have e2 : ((er : Int) != 0) = true := by rw [her]; rfl
            have e3 : ((er : Int) == 40) = true := by rw [her]; rfl
            have e4 : ((er : Int) != 40) = false := by rw [her]; rfl
            have HE := Lib.hid her
            have HF := Lib.hid hF
            clear her hF
            go_wp2_with fail
            have HD := Lib.hid hdn
            clear hdn
            have hdown : Calls Try.prog 41 #[.pointer (some ⟨p, 0, none⟩)] w7 fun e w' => e = .returned (.bool r.down) ∧ w' = w7 := by
              obtain ⟨F, hX, _⟩ := H7.out
              exact dx_down hX
            rw [HD.out] at hdown
            refine hdown.mono ?_
            clear hdown
            rintro e w8 ⟨rfl, rfl⟩
            have c4 := H7.out.savedc.1
            have HC := Lib.hid (And.intro H7.out.savedc.2.1 (And.intro H7.out.savedc.2.2.1 H7.out.savedc.2.2.2))
            have k5 := HC.out.1
            have k6 := HC.out.2.1
            have k7 := HC.out.2.2
            have HS : w8.cell? ⟨rc, 5, none⟩ = some (.slice x.kA x.kn x.kc) ∧ w8.cell? ⟨rc, 6, none⟩ = some (.bool x.torn) ∧ w8.cell? ⟨rc, 7, none⟩ = some (.int .i64 x.cut) := ⟨k5, k6, k7⟩
            have hblkE : ((w8.alloc (.cells #[] 3)).drew).heap[w8.heap.size]? = some (.cells #[] 3 (0, 0)) := heap_alloc_new w8 _
            have hisE : IS ((w8.alloc (.cells #[] 3)).drew) x.kA x.kn x.keep := HP.out.2.2.below (H7.out.old.trans (((Below.refl _ _).alloc (Nat.le_refl _) _).drew.mono H7.out.old.size))
            have HE2 := Lib.hid (And.intro hblkE hisE)
            clear hblkE hisE k5 k6 k7
            go_upto_region 19 with fail
            go_region_held3 (fun w' => w'.cell? ⟨rc, 5, none⟩ = some (.slice x.kA x.kn x.kc) ∧ w'.cell? ⟨rc, 6, none⟩ = some (.bool x.torn) ∧ w'.cell? ⟨rc, 7, none⟩ = some (.int .i64 x.cut)) ((first | exact HS | exact ⟨cell_alloc_some' _ HS.1, cell_alloc_some' _ HS.2.1, cell_alloc_some' _ HS.2.2⟩)) (first
              | (refine step_app_ints (by rfl) (.tmp 86) (.tmp 89) 67 (by rfl) 3 i0 Try.underlying67 HI.out.1 HI.out.2.1 HI.out.2.2.1 HI.out.2.2.2 w8.heap.size (by simp [Act.eval, Act.put]) HE2.out.1 x.kA x.kn x.kc x.keep (by simp [Act.eval, Act.put]) HE2.out.2 (by omega) ?_
                 intro A3 c3 w9 hown3 hg3
                 have hb9 : Below w8.heap.size w8 w9 := (((Below.refl _ w8).alloc (Nat.le_refl _) (.cells #[] 3)).drew).grown hg3 (by show _ ≤ (w8.alloc _).heap.size; simp) (fun k e => by cases e; exact Nat.le_refl _)
                 have hm9 := H7.out.below hb9
                 have HS : w9.cell? ⟨rc, 5, none⟩ = some (.slice x.kA x.kn x.kc) ∧ w9.cell? ⟨rc, 6, none⟩ = some (.bool x.torn) ∧ w9.cell? ⟨rc, 7, none⟩ = some (.int .i64 x.cut) := hm9.savedc.2
                 have H9 := Lib.hid (And.intro hm9 (IS.of_own hown3))
                 clear hown3 hg3 hb9 hm9)
              | (go_at_call 42; go_must (refine (mem3_crash H9.out.1 HV.out.2.1 A3 x.kn c3 x.keep x.torn x.cut H9.out.2 (by omega) (by have := HV.out.2.2.1; omega)).mono ?_; rintro e w10 ⟨y, rfl, h10⟩; have HS := h10.savedc.2; have H10 := Lib.hid h10; clear h10)))
            all_goals
              obtain ⟨n, hn1, hn2⟩ := HV.out.2.2.2.2.1 (fun h => by have := HE.out; omega)
              rcases hn2 with hn3 | ⟨hn3, hn2⟩
              · rw [hn3] at hn1
                have HN := Lib.hid hn1
                clear hn1 hn3
                go_wp2_with fail
                have hld := mem3_load (H10.out) (HN.out)
                rw [show mm.gen = last.gen + 1 by rw [HY.out.1], show mm.inc = x.inc by rw [HY.out.1], show mm.first = x.first by rw [HY.out.1], show mm.lsn = x.lsn by rw [HY.out.1], show mm.check = x.check by rw [HY.out.1]] at hld
                refine hld.mono ?_
                clear hld
                rintro e w11 ⟨rfl, hb11⟩
                have hm11 := (H10.out).below hb11
                obtain ⟨⟨l0, l1, l2, l3, l4⟩, f0, f1, f2, f3, f4⟩ := hm11.lastc
                have hnc := hm11.newc
                rw [show mm.gen = last.gen + 1 by rw [HY.out.1], show mm.inc = x.inc by rw [HY.out.1], show mm.first = x.first by rw [HY.out.1], show mm.lsn = x.lsn by rw [HY.out.1], show mm.check = x.check by rw [HY.out.1]] at hnc
                obtain ⟨n0, n1, n2, n3, n4⟩ := hnc
                have hlb : lb < w11.heap.size := by obtain ⟨F, _, h2, _⟩ := hm11; exact h2.lt
                have hmb : mb < w11.heap.size := by obtain ⟨F, _, _, _, h2, _⟩ := hm11; exact h2.lt
                have hfin := ((hm11.put mm).below ((Below.refl _ _).alloc (Nat.le_refl _) (.cells #[.int .i64 (last.gen + 1), .int .i64 x.inc, .int .i64 x.first, .int .i64 x.lsn, .int .i64 x.check] 48))).st2 (HN.out)
                rw [show mm.gen = last.gen + 1 by rw [HY.out.1], show mm.inc = x.inc by rw [HY.out.1], show mm.first = x.first by rw [HY.out.1], show mm.lsn = x.lsn by rw [HY.out.1], show mm.check = x.check by rw [HY.out.1]] at hfin
                have HZ := Lib.hid hfin
                clear hb11 hm11 hfin
                go_wp2_with fail
                go_roundg (m - (i + 1))
                case measure => omega
                case rel => exact ⟨i + 1, by omega, rfl, by go_num, HZ.out⟩
              · rw [hn3] at hn1
                have HN := Lib.hid hn1
                clear hn1 hn2 hn3
                go_wp2_with fail
                have hld := mem3_load (H10.out) (HN.out)
                refine hld.mono ?_
                clear hld
                rintro e w11 ⟨rfl, hb11⟩
                have hm11 := (H10.out).below hb11
                obtain ⟨⟨l0, l1, l2, l3, l4⟩, f0, f1, f2, f3, f4⟩ := hm11.lastc
                have hnc := hm11.newc
                rw [show mm.gen = last.gen + 1 by rw [HY.out.1], show mm.inc = x.inc by rw [HY.out.1], show mm.first = x.first by rw [HY.out.1], show mm.lsn = x.lsn by rw [HY.out.1], show mm.check = x.check by rw [HY.out.1]] at hnc
                obtain ⟨n0, n1, n2, n3, n4⟩ := hnc
                have hlb : lb < w11.heap.size := by obtain ⟨F, _, h2, _⟩ := hm11; exact h2.lt
                have hmb : mb < w11.heap.size := by obtain ⟨F, _, _, _, h2, _⟩ := hm11; exact h2.lt
                have hfin := ((hm11.put last).below ((Below.refl _ _).alloc (Nat.le_refl _) (.cells #[.int .i64 last.gen, .int .i64 last.inc, .int .i64 last.first, .int .i64 last.lsn, .int .i64 last.check] 48))).st2 (HN.out)
                have HZ := Lib.hid hfin
                clear hb11 hm11 hfin
                go_wp2_with fail
                go_roundg (m - (i + 1))
                case measure => omega
                case rel => exact ⟨i + 1, by omega, rfl, by go_num, HZ.out⟩
    · have H := Lib.hid hX.below
      clear hX hA hlb hge
      go_wp2_with fail
      refine (awake06_any wr).mono ?_
      rintro e w9 ⟨rfl, hb9⟩
      have H9 := Lib.hid (H.out.trans (hb9.mono H.out.size))
      clear hb9
      go_wp2
      go_ret
      exact ⟨rfl, H9.out⟩
set_option maxHeartbeats 2000000 in
theorem walk (A : Option Addr) (m cap : Nat) (l : List SavedD) (w : World) (hl : ST savedK w A m l) (hmc : m ≤ cap) (hcm : cap ≤ maxLen) :
    Calls Try.prog 9 #[.slice A m cap] w fun e w' => e = .returned (.bool true) ∧ Below w.heap.size w w' := by
  by_cases h40 : m ≤ 40
  · exact walk_main A m cap l w hl hmc hcm h40
  · have hd40 : decide (40 < (m : Int)) = true := by simp; omega
    unfold maxLen at hcm
    clear hl
    go_enter Try.func9, Try.ntmps9
    go_wp2_with fail
    refine (awake06_any w).mono ?_
    rintro e w10 ⟨rfl, hb10⟩
    go_wp2
    go_ret
    exact ⟨rfl, hb10⟩

theorem own : ownKnob Try.prog.godebug = none := by kernel_rfl
theorem laidOut : laidOutB Try.prog = true := by kernel_rfl
theorem params_ok : ∀ t ∈ Try.f9.params.toList, Try.prog.readableRec t = true ∧ t < Try.prog.types.size := by
  rw [Try.params9]
  intro t ht
  have ht' : t = 66 := by
    simpa using ht
  subst ht'
  exact ⟨(show Try.prog.readableRec 66 = true by kernel_rfl), of_decide_eq_true (show decide (66 < Try.prog.types.size) = true by kernel_rfl)⟩

set_option maxRecDepth 100000 in
theorem contract (H : Type) (enc : TypeId × Value → H) (W : World) (base : Nat) (args : Array Value) (ds gs : List (DataW H)) (before : List MemPlace)
    (hval : ∀ (j : Nat) t v, Try.f9.params[j]? = some t → args[j]? = some v → Value.okWide Try.prog W .any base t v)
    (hW : DataW.Whole enc Try.prog Try.f9.params.toList Rows.masterCrashesSpec.vars false W args.toList ds gs before) :
    Calls Try.prog 9 args W fun e W' => ∃ v, e = .returned v ∧ Rows.masterCrashesSpec.post enc Try.prog Try.f9 false true false false W args v W' := by
  have hW' := hW
  obtain ⟨p, q, hA0, hV, rfl, hfz, hnd⟩ := hW
  have hA : DataW.TrodAll enc Try.prog W 0 (fun _ => true) true Try.f9.params.toList args.toList ds p := hA0
  rw [Try.params9] at hA hval
  obtain ⟨v0, vs0, d0, ds0, p0, q0, hargs, rfl, rfl, h0, r0⟩ := trodAll_cons hA
  obtain ⟨rfl, rfl, rfl⟩ := trodAll_nil r0
  obtain rfl : args = #[v0] := by cases args; simp_all
  obtain ⟨rfl, rfl⟩ := trodVars_none hV
  obtain ⟨A0, n0, c0, l0, rfl, lh0, nc0, cm0⟩ := open_structs (K := savedK) Try.underlying66 (show Try.prog.cellsOf 71 = (savedK).k by kernel_rfl) (by decide) saved_cells (hval 0 66 v0 rfl rfl) h0
  refine (walk A0 n0 c0 l0 W lh0 nc0 cm0).mono fun e W' ⟨he, bel⟩ => ?_
  exact ⟨_, he, post_true laidOut Try.underlying4 (show Try.f9.resultTypes = #[4] from rfl) params_ok rfl hW' rfl bel⟩

theorem laid_met (os : Os) : laidMet Try.prog Rows.masterCrashesRow.laid ((World.holding Try.prog os ⟨#[], #[], []⟩).forCall (fun _ _ => 0) ⟨#[], #[.slice none 0 0], []⟩).memory :=
  laidMet_of_run' 8 (by kernel_rfl) (by kernel_rfl)
theorem reads (os : Os) {H : Type} (enc : TypeId × Value → H) : ∃ places, DataW.whole enc Try.prog ((World.holding Try.prog os ⟨#[], #[], []⟩).forCall (fun _ _ => 0) ⟨#[], #[.slice none 0 0], []⟩).memory Try.f9.params.toList Rows.masterCrashesSpec.vars false (#[Value.slice none 0 0] : Array Value).toList 8 = some ([.nil], [], places) :=
  ⟨[], by kernel_rfl⟩
set_option maxRecDepth 100000 in
theorem lifted (os : Os) (started : os.Started) (H : Type) (enc : TypeId × Value → H) (F : Stop.Interp) :
    ReturnsInHanded {} Try.checked os 9 .any ((OpenSpec.ofChange Rows.masterCrashesSpec).preRow enc Try.prog Try.f9 Rows.masterCrashesRow.domain false Rows.masterCrashesRow.laid) (((OpenSpec.ofChange Rows.masterCrashesSpec).at F).post enc Try.prog Try.f9 false true false false) := by
  obtain ⟨places, hx⟩ := reads os enc
  refine returnsInHanded_of_row (C := Try.checked) (s := OpenSpec.ofChange Rows.masterCrashesSpec) own started (by kernel_rfl) Try.func9
    (witness_row_at (enc := enc) (C := Try.checked) false (World.holding Try.prog os ⟨#[], #[], []⟩) #[.slice none 0 0] rfl (by kernel_rfl) (by kernel_rfl) (by kernel_rfl)
      (OpenSpec.preRow_of_cond 8 hx (by kernel_rfl) (fun k hk => by cases hk) (by kernel_rfl) (laid_met os))) ?_
  intro W base args ds gs before hval hW _ _ hsz hL _ _
  exact contract H enc W base args ds gs before hval hW
theorem said : Rows.MasterCrashesSaid :=
  OpenClaim.holds_of_cond 9 Try.f9 rfl rfl rfl rfl rfl rfl rfl ⟨rfl, rfl, rfl, rfl, rfl⟩ rfl rfl rfl rfl rfl (by kernel_rfl) Try.func9 (by kernel_rfl)
    (of_decide_eq_true (by kernel_rfl)) (by unfold Func.isWrapper; first | (rw [if_pos (by decide +kernel)]; kernel_rfl) | (rw [if_neg (by decide +kernel)]; exact ⟨rfl, rfl⟩))
    (fun os started H enc _ F => by rw [OpenClaim.pre_eq_preRow]; exact lifted os started H enc F)
#print axioms said
end Go.Proofs.Ytfcmlfcpgboigaa.masterCrashes
