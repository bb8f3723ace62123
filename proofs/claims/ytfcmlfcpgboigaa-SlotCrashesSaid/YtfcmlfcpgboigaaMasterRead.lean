/- What package master reads: a record's numbers. -/
import Derived.Test.YtfcmlfcpgboigaaMaster
namespace Go.Proofs.Ytfcmlfcpgboigaa
open Go.RowKit Mem
set_option linter.unusedVariables false
set_option linter.unusedSimpArgs false

namespace Ms
def mOf (l : List Int) : M := ⟨l.getD 0 0, l.getD 1 0, l.getD 2 0, l.getD 3 0, l.getD 4 0⟩
def one (r : Sl.R) : Int := ((Sl.out r 0 (Sl.number r.b 1099511627776).1 : Nat) : Int)
def next (r : Sl.R) : Sl.R := Sl.try_ r (Sl.number r.b 1099511627776).2
/-- numbers, one behind the other -/
def reads (r : Sl.R) : Nat → List Int × Sl.R
  | 0 => ([], r)
  | k + 1 => ((reads r k).1 ++ [one (reads r k).2], next (reads r k).2)
theorem reads_length (r : Sl.R) (k : Nat) : (reads r k).1.length = k := by
  induction k with
  | zero => rfl
  | succ k ih => simp [reads, ih]
theorem try_le (r : Sl.R) (x : Nat × Nat) : (Sl.try_ r x).b.length ≤ r.b.length := by
  unfold Sl.try_
  split
  · exact Nat.le_refl _
  · split
    · exact Nat.le_refl _
    · simp
theorem reads_le (r : Sl.R) (k : Nat) : (reads r k).2.b.length ≤ r.b.length := by
  induction k with
  | zero => exact Nat.le_refl _
  | succ k ih => exact Nat.le_trans (try_le _ _) ih
theorem one_bound (r : Sl.R) : 0 ≤ one r ∧ one r ≤ 1099511627776 := by
  unfold one Sl.out
  split
  · simp
  · have h := Sl.number_most r.b 1099511627776 (by omega)
    refine ⟨by omega, ?_⟩
    clear h
    unfold Sl.number
    split
    · simp only; omega
    · split
      · simp only; omega
      · rename_i h1 h2
        omega
/-- a record's numbers out of bytes, and whether all went well -/
def read (bs : List UInt8) : M × Bool := (mOf (reads ⟨bs, 0⟩ 5).1, decide ((reads ⟨bs, 0⟩ 5).2.e = 0))
theorem mcells_put (l : List Int) (k : Nat) (hk : k < 5) (hl : l.length = k) (x : Int) : (mCells (mOf l)).setIfInBounds k (.int .i64 x) = mCells (mOf (l ++ [x])) := by
  match k, hk, l, hl with
  | 0, _, [], _ => rfl
  | 1, _, [a], _ => rfl
  | 2, _, [a, b], _ => rfl
  | 3, _, [a, b, c], _ => rfl
  | 4, _, [a, b, c, d], _ => rfl
end Ms
set_option maxRecDepth 100000 in
set_option maxHeartbeats 4000000 in
theorem mread_any (A : Option Addr) (n cap : Nat) (bs : List UInt8) (w : World) (hbs : BS w A n bs) (hn : n ≤ 140737488351232) :
    Calls Try.prog 66 #[.slice A n cap] w fun e w' => e = .returned (.tuple #[mVal (Ms.read bs).1, .bool (Ms.read bs).2]) ∧ Below w.heap.size w w' := by
  unfold Ms.read
  obtain ⟨t5, ht5⟩ : ∃ t, Ms.reads ⟨bs, 0⟩ 5 = t := ⟨_, rfl⟩
  rw [ht5]
  obtain ⟨l5, r5⟩ := t5
  simp only
  obtain ⟨m5, hm5⟩ : ∃ m, Ms.mOf l5 = m := ⟨_, rfl⟩
  rw [hm5]
  have HT := Lib.hid (And.intro ht5 hm5)
  clear ht5 hm5
  let w0 := (w.alloc (.cells (mCells Ms.zero) 48)).alloc (.cells (mCells Ms.zero) 48)
  have hb0 : Below w.heap.size w w0 := ((Below.refl _ _).alloc (Nat.le_refl _) _).alloc (by simp) _
  have hsz0 : w0.heap.size = w.heap.size + 2 := by simp [w0]
  have hblk : Blk w0 (w.heap.size + 1) 48 (mCells Ms.zero) := by
    have := Blk.new (w.alloc (.cells (mCells Ms.zero) 48)) 48 (mCells Ms.zero)
    simpa [w0] using this
  have hblk2 : Blk w0 w.heap.size 48 (mCells Ms.zero) := (Blk.new w 48 (mCells Ms.zero)).alloc _
  have hrd := read_new A n cap bs w0 (hbs.below hb0) hn
  have hlen := hbs.1
  have H := Lib.hid (And.intro hb0 (And.intro hblk (And.intro hblk2 hrd)))
  have hidx := fun k hk x hx => idx5 (w.heap.size + 1) k hk x hx
  have HI := Lib.hid hidx
  clear hb0 hblk hblk2 hrd hidx hbs
  have hw0 : w0 = (w.alloc (.cells #[.int .i64 0, .int .i64 0, .int .i64 0, .int .i64 0, .int .i64 0] 48)).alloc (.cells #[.int .i64 0, .int .i64 0, .int .i64 0, .int .i64 0, .int .i64 0] 48) := rfl
  rw [hw0] at H hsz0
  clear hw0
  clear w0
  go_enter Try.func66, Try.ntmps66
  go_wp2_with fail
  refine H.out.2.2.2.mono ?_
  rintro e w1 ⟨q, F, rfl, hr1, hb1, hF1⟩
  rw [hsz0] at hb1 hF1
  have H1 := Lib.hid (And.intro hr1 (And.intro (H.out.1.trans (hb1.mono (by omega))) (And.intro hF1 (And.intro (H.out.2.1.below hb1 (by omega)) (H.out.2.2.1.below hb1 (by omega))))))
  have hs1 := hb1.size
  clear hr1 hb1 hF1
  go_wp2_with fail
  refine (fields_any (w.heap.size + 1) w1).mono ?_
  unfold ptrs ptr
  rintro e w2 ⟨rfl, hb2⟩
  have H2 := Lib.hid (And.intro (H1.out.1.below hb2) (And.intro (H1.out.2.1.trans (hb2.mono H1.out.2.1.size)) (And.intro (H1.out.2.2.2.1.below hb2 (by omega)) (H1.out.2.2.2.2.below hb2 (by omega)))))
  clear hb2
  go_wp2_with fail
  go_loopw [7, 11] (fun _ i wr => ∃ k : Nat, k ≤ 5 ∧ i = .int .i64 k ∧ RdAt wr q (Ms.reads ⟨bs, 0⟩ k).2 F ∧ Blk wr (w.heap.size + 1) 48 (mCells (Ms.mOf (Ms.reads ⟨bs, 0⟩ k).1)) ∧ Blk wr w.heap.size 48 (mCells Ms.zero) ∧ Below w.heap.size w wr) (fun _ i _ => 5 - (intOf i).toNat)
  case atStart => exact ⟨0, by omega, rfl, H2.out.1, H2.out.2.2.1, H2.out.2.2.2, H2.out.2.1⟩
  case round =>
    obtain ⟨k, hk, rfl, hrd, hbm, hbz, hbl⟩ := hrel
    by_cases hlt : k < 5
    · have hle := Ms.reads_le ⟨bs, 0⟩ k
      have hlk := Ms.reads_length ⟨bs, 0⟩ k
      have hstep : Ms.reads ⟨bs, 0⟩ (k + 1) = ((Ms.reads ⟨bs, 0⟩ k).1 ++ [Ms.one (Ms.reads ⟨bs, 0⟩ k).2], Ms.next (Ms.reads ⟨bs, 0⟩ k).2) := rfl
      generalize Ms.reads ⟨bs, 0⟩ k = t at *
      obtain ⟨l, r⟩ := t
      simp only at hrd hbm hle hlk hstep
      have hnum := rnum_any q r F 1099511627776 wr hrd (by omega) (by omega)
      have hqF := H1.out.2.2.1 q hrd.self
      have hfr : ∀ w3, Fr (fun k => k = q) wr w3 → Blk w3 (w.heap.size + 1) 48 (mCells (Ms.mOf l)) ∧ Blk w3 w.heap.size 48 (mCells Ms.zero) ∧ Below w.heap.size w w3 := fun w3 h3 =>
        ⟨hbm.keep (h3.block _ hbm.lt (by omega)), hbz.keep (h3.block _ hbz.lt (by omega)), hbl.trans (h3.below hbl.size (fun i hi => by omega))⟩
      have hidx := HI.out k hlt k rfl
      unfold ptrs ptr at hidx
      have HN := Lib.hid (And.intro hnum (And.intro hfr (And.intro hstep hlk)))
      clear hnum hfr hstep hrd hbm hbz hbl
      go_wp2_with fail
      refine HN.out.1.mono ?_
      rintro e w3 ⟨rfl, hr3, hf3⟩
      obtain ⟨b1, b2, b3⟩ := HN.out.2.1 w3 hf3
      have hcell := mcell b1 hlt
      have hfz := b1.free k
      have hput := b1.put k (.int .i64 (Ms.one r))
      rw [Ms.mcells_put l k hlt HN.out.2.2.2] at hput
      have H3 := Lib.hid (And.intro hr3 (And.intro hput (And.intro b2 b3)))
      clear hr3 hf3 b1 b2 b3 hput
      generalize (Ms.mOf l).vals.getD k 0 = old at *
      go_wp2
      go_roundw
      case rel =>
        refine ⟨k + 1, by omega, by go_num, ?_, ?_, ?_, ?_⟩
        · rw [HN.out.2.2.1]
          exact H3.out.1.keep (by simp [World.setCell]) (fun j hj => Below.heap_setCell w3 _ _ j (by have := H1.out.2.2.1 j hj; intro e; simp only at e; omega))
        · rw [HN.out.2.2.1]
          exact H3.out.2.1
        · exact H3.out.2.2.1.far (by simp) _
        · exact H3.out.2.2.2.trans ((Fr.setCell (F := fun i => w.heap.size ≤ i) (Fr.refl _ _) _ _ (fun _ => by simp)).below H3.out.2.2.2.size (fun i hi => hi))
      case measure => simp [intOf]; omega
    · obtain rfl : k = 5 := by omega
      rw [HT.out.1] at hrd hbm
      simp only at hrd hbm
      rw [HT.out.2] at hbm
      have herr := rerr_any q r5 F wr.drew (hrd.keep (Nat.le_refl _) (fun _ _ => rfl))
      have hc0 : wr.cell? ⟨w.heap.size + 1, 0, none⟩ = some (.int .i64 m5.gen) := hbm.cell 0
      have hc1 : wr.cell? ⟨w.heap.size + 1, 1, none⟩ = some (.int .i64 m5.inc) := hbm.cell 1
      have hc2 : wr.cell? ⟨w.heap.size + 1, 2, none⟩ = some (.int .i64 m5.first) := hbm.cell 2
      have hc3 : wr.cell? ⟨w.heap.size + 1, 3, none⟩ = some (.int .i64 m5.lsn) := hbm.cell 3
      have hc4 : wr.cell? ⟨w.heap.size + 1, 4, none⟩ = some (.int .i64 m5.check) := hbm.cell 4
      have z0 : wr.cell? ⟨w.heap.size, 0, none⟩ = some (.int .i64 0) := hbz.cell 0
      have z1 : wr.cell? ⟨w.heap.size, 1, none⟩ = some (.int .i64 0) := hbz.cell 1
      have z2 : wr.cell? ⟨w.heap.size, 2, none⟩ = some (.int .i64 0) := hbz.cell 2
      have z3 : wr.cell? ⟨w.heap.size, 3, none⟩ = some (.int .i64 0) := hbz.cell 3
      have z4 : wr.cell? ⟨w.heap.size, 4, none⟩ = some (.int .i64 0) := hbz.cell 4
      have zf := fun i => hbz.free i
      have HE := Lib.hid (And.intro herr (And.intro hbm (And.intro hbz hbl)))
      clear herr hrd hbm hbz hbl
      go_wp2
      go_region_with (go_at_call 87; refine HE.out.1.mono ?_; rintro e w9 ⟨rfl, rfl⟩)
      all_goals
        go_wp2
        have hW := ((((HE.out.2.2.1.put 0 (.int .i64 m5.gen)).put 1 (.int .i64 m5.inc)).put 2 (.int .i64 m5.first)).put 3 (.int .i64 m5.lsn)).put 4 (.int .i64 m5.check)
        have y0 := hW.cell 0
        have y1 := hW.cell 1
        have y2 := hW.cell 2
        have y3 := hW.cell 3
        have y4 := hW.cell 4
        have hbe : Below w.heap.size w (((((wr.setCell ⟨w.heap.size, 0, none⟩ (.int .i64 m5.gen)).setCell ⟨w.heap.size, 1, none⟩ (.int .i64 m5.inc)).setCell ⟨w.heap.size, 2, none⟩ (.int .i64 m5.first)).setCell ⟨w.heap.size, 3, none⟩ (.int .i64 m5.lsn)).setCell ⟨w.heap.size, 4, none⟩ (.int .i64 m5.check)).drew := by
          have h1 := HE.out.2.2.2
          have hfr : Fr (fun i => w.heap.size ≤ i) wr _ := ((((((Fr.refl (fun i => w.heap.size ≤ i) wr).setCell ⟨w.heap.size, 0, none⟩ (.int .i64 m5.gen) (fun _ => Nat.le_refl _)).setCell ⟨w.heap.size, 1, none⟩ (.int .i64 m5.inc) (fun _ => Nat.le_refl _)).setCell ⟨w.heap.size, 2, none⟩ (.int .i64 m5.first) (fun _ => Nat.le_refl _)).setCell ⟨w.heap.size, 3, none⟩ (.int .i64 m5.lsn) (fun _ => Nat.le_refl _)).setCell ⟨w.heap.size, 4, none⟩ (.int .i64 m5.check) (fun _ => Nat.le_refl _)).drew 1
          exact h1.trans (hfr.below h1.size (fun i hi => hi))
        have hde : ((r5.e : Int) == 0) = decide (r5.e = 0) := by
          by_cases h : r5.e = 0
          · simp [h]
          · rw [decide_eq_false h, beq_eq_false_iff_ne]; omega
        clear hW
        simp only [mCells] at y0 y1 y2 y3 y4
        simp [bodyPost, results, Try.results66, go_sem, y0, y1, y2, y3, y4, mVal, mCells, hde, Act.put]
        exact hbe
end Go.Proofs.Ytfcmlfcpgboigaa
