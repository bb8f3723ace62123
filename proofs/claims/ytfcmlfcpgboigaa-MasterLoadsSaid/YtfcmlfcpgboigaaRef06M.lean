/- The document's layer 6: One, Load. -/
import Derived.Test.YtfcmlfcpgboigaaMaster06
namespace Go.Proofs.Ytfcmlfcpgboigaa
open Go.RowKit Mem
set_option linter.unusedVariables false
set_option linter.unusedSimpArgs false
set_option maxRecDepth 100000

namespace Ms
/-- the record of a sector, by the document -/
def oneM (s : List UInt8) (n : Int) : M := if (Stamp.openR s).2 ≠ 0 then zero else take (Stamp.openR s).1 n zero
theorem oneM_sec (s : List UInt8) (n : Int) (h : s.length = 256) : oneM s n = secM s n := by
  have e : Stamp.openR s = if Stamp.openOk s then (Stamp.openB s, 0) else ([], 50) := by unfold Stamp.openR; rw [if_neg (by omega)]
  unfold oneM secM Dk.opn
  rw [e]
  cases Stamp.openOk s <;> simp
end Ms
/-- where One stands behind k numbers -/
structure OneAt (w : World) (q : Nat) (F : Nat → Prop) (bs : List UInt8) (k : Nat) (wr : World) : Prop where
  rd : RfAt wr q (Ms.reads ⟨bs, 0⟩ k).2 F
  m : Blk wr (q + 1) 48 (mCells (Ms.mOf (Ms.reads ⟨bs, 0⟩ k).1))
  z : Blk wr w.heap.size 48 (mCells Ms.zero)
  b : Below w.heap.size w wr
  hq : w.heap.size < q
  hF : ∀ j, F j → j ≤ q
theorem OneAt.step {w wr w' : World} {q : Nat} {F : Nat → Prop} {bs : List UInt8} {k : Nat} {e : Ending} (h : OneAt w q F bs k wr) (hk : k < 5)
    (hr : RfTo wr F q (.int .i64 (Ms.one (Ms.reads ⟨bs, 0⟩ k).2)) (Ms.next (Ms.reads ⟨bs, 0⟩ k).2) e w') :
    e = .returned (.int .i64 (Ms.one (Ms.reads ⟨bs, 0⟩ k).2)) ∧ (∃ u, w'.cell? ⟨q + 1, k, none⟩ = some (.int .i64 u)) ∧ w'.frozen? ⟨q + 1, k, none⟩ = false ∧ OneAt w q F bs (k + 1) (w'.setCell ⟨q + 1, k, none⟩ (.int .i64 (Ms.one (Ms.reads ⟨bs, 0⟩ k).2))) := by
  obtain ⟨h1, h2, h3⟩ := hr
  have hq := h.hq
  have hm := h.m.keep (h3.block _ h.m.lt (by omega))
  have hz := h.z.keep (h3.block _ h.z.lt (by omega))
  have hb := h.b.trans (h3.below h.b.size (fun i hi => by omega))
  have hl := Ms.reads_length ⟨bs, 0⟩ k
  refine ⟨h1, ⟨_, mcell hm hk⟩, hm.free k, ?_, ?_, hz.far (by simp only; omega) _, ?_, h.hq, h.hF⟩
  · exact h2.keep (by simp [World.setCell]) (fun j hj => Below.heap_setCell w' _ _ j (by have := h.hF j hj; simp only; omega))
  · have hp := hm.put k (.int .i64 (Ms.one (Ms.reads ⟨bs, 0⟩ k).2))
    rw [Ms.mcells_put _ k hk hl] at hp
    exact hp
  · exact hb.trans ((Fr.setCell (F := fun i => w.heap.size ≤ i) (Fr.refl _ _) _ _ (fun _ => by simp only; omega)).below hb.size (fun i hi => hi))
set_option maxHeartbeats 8000000 in
theorem ref06one_any (A : Option Addr) (n cap : Nat) (bs : List UInt8) (odd : Int) (w : World) (hbs : BS w A n bs) (hn : n ≤ 140737488351232) (hnc : n ≤ cap) (hcm : cap ≤ 9223372036854775807) :
    Calls Try.prog 67 #[.slice A n cap, .int .i64 odd] w fun e w' => e = .returned (mVal (Ms.oneM bs odd)) ∧ Below w.heap.size w w' := by
  have hb0 : Below w.heap.size w (w.alloc (.cells (mCells Ms.zero) 48)) := (Below.refl _ _).alloc (Nat.le_refl _) _
  have hblk : Blk (w.alloc (.cells (mCells Ms.zero) 48)) w.heap.size 48 (mCells Ms.zero) := Blk.new _ _ _
  have hop := refOpen_any A n cap bs (w.alloc (.cells (mCells Ms.zero) 48)) (hbs.below hb0) hn hnc hcm
  obtain ⟨R, hR⟩ : ∃ R, Ms.oneM bs odd = R := ⟨_, rfl⟩
  rw [hR]
  have hlen : (Stamp.openR bs).1.length ≤ 1000 := by
    unfold Stamp.openR
    split
    · simp
    · split
      · rw [Stamp.openB_length _ (by omega)]; omega
      · simp
  unfold Ms.oneM at hR
  generalize Stamp.openR bs = g at *
  obtain ⟨ps, er⟩ := g
  simp only at hR hlen
  have HR := Lib.hid hR
  have H := Lib.hid (And.intro hb0 (And.intro hblk hop))
  clear hb0 hblk hop hR hbs
  unfold mVal mCells Ms.zero at *
  by_cases he : er = 0
  · subst he
    go_enter Try.func67, Try.ntmps67
    go_wp2_with fail
    refine H.out.2.2.mono ?_
    rintro e w1 ⟨B1, c1, rfl, hB1, hc1, hm1, hb1⟩
    simp only at hB1 hc1 ⊢
    have hs1 : w.heap.size < w1.heap.size := by have := hb1.size; simp at this; omega
    have hbw := H.out.1.trans (hb1.mono H.out.1.size)
    have hzz : Blk w1 w.heap.size 48 (mCells Ms.zero) := H.out.2.1.below hb1 (by simp)
    have hone : OneAt w w1.heap.size (fun j => j ≤ w1.heap.size) ps 0 ((w1.alloc (.cells #[.slice B1 ps.length c1, .int .i64 0] 137)).alloc (.cells #[.int .i64 0, .int .i64 0, .int .i64 0, .int .i64 0, .int .i64 0] 48)) := by
      have hbx : Below w1.heap.size w1 (w1.alloc (.cells #[.slice B1 ps.length c1, .int .i64 0] 137)) := (Below.refl _ _).alloc (Nat.le_refl _) _
      have hby : Below w1.heap.size w1 ((w1.alloc (.cells #[.slice B1 ps.length c1, .int .i64 0] 137)).alloc (.cells #[.int .i64 0, .int .i64 0, .int .i64 0, .int .i64 0, .int .i64 0] 48)) := hbx.alloc (by simp) _
      refine ⟨⟨B1, ps.length, c1, (Blk.new w1 137 #[.slice B1 ps.length c1, .int .i64 0]).alloc _, hB1.below hby, hc1, hm1, Nat.le_refl _, fun a ha ea => ?_, fun j hj => by simp; omega⟩, ?_, (hzz.alloc _).alloc _, hbw.trans (hby.mono hbw.size), hs1, fun j hj => hj⟩
      · obtain ⟨b, off, rfl, hb, _⟩ := hB1.2 ha
        injection ea with ea
        subst ea
        exact ⟨by simp only; omega, by simp only; omega⟩
      · have := Blk.new (w1.alloc (.cells #[.slice B1 ps.length c1, .int .i64 0] 137)) 48 (mCells Ms.zero)
        rw [show (w1.alloc (.cells #[.slice B1 ps.length c1, .int .i64 0] 137)).heap.size = w1.heap.size + 1 by simp] at this
        exact this
    have hq : w1.heap.size + 1 = (w1.alloc (.cells #[.slice B1 ps.length c1, .int .i64 0] 137)).heap.size := by simp
    generalize (fun j => j ≤ w1.heap.size) = F at *
    have HO0 := Lib.hid hone
    clear hone hB1 hb1 hbw hzz hq
    go_wp2_with fail
    generalize w1.heap.size = q at *
    generalize (w1.alloc (.cells #[.slice B1 ps.length c1, .int .i64 0] 137)).alloc (.cells #[.int .i64 0, .int .i64 0, .int .i64 0, .int .i64 0, .int .i64 0] 48) = v0 at *
    have hrn0 := refRNum_any q (Ms.reads ⟨ps, 0⟩ 0).2 F 1099511627776 v0 HO0.out.rd (by omega) (by have := Ms.reads_le ⟨ps, 0⟩ 0; simp only at this; omega)
    refine hrn0.mono ?_
    intro e y0 hy0
    obtain ⟨rfl, ⟨u0, hu0⟩, hf0, ho1⟩ := HO0.out.step (k := 0) (by omega) hy0
    clear hrn0 hy0
    generalize hoo0 : Ms.one (Ms.reads ⟨ps, 0⟩ 0).2 = o0 at *
    clear hoo0
    obtain ⟨v1, hv1⟩ : ∃ v, y0.setCell ⟨q + 1, 0, none⟩ (.int .i64 o0) = v := ⟨_, rfl⟩
    rw [hv1] at ho1
    have HO1 : RowKit.Hid (OneAt w q F ps 1 v1) := Lib.hid ho1
    clear ho1
    go_wp2_with fail
    clear hv1 hu0 hf0
    have hrn1 := refRNum_any q (Ms.reads ⟨ps, 0⟩ 1).2 F 1099511627776 v1 HO1.out.rd (by omega) (by have := Ms.reads_le ⟨ps, 0⟩ 1; simp only at this; omega)
    refine hrn1.mono ?_
    intro e y1 hy1
    obtain ⟨rfl, ⟨u1, hu1⟩, hf1, ho2⟩ := HO1.out.step (k := 1) (by omega) hy1
    clear hrn1 hy1
    generalize hoo1 : Ms.one (Ms.reads ⟨ps, 0⟩ 1).2 = o1 at *
    clear hoo1
    obtain ⟨v2, hv2⟩ : ∃ v, y1.setCell ⟨q + 1, 1, none⟩ (.int .i64 o1) = v := ⟨_, rfl⟩
    rw [hv2] at ho2
    have HO2 : RowKit.Hid (OneAt w q F ps 2 v2) := Lib.hid ho2
    clear ho2
    go_wp2_with fail
    clear hv2 hu1 hf1
    have hrn2 := refRNum_any q (Ms.reads ⟨ps, 0⟩ 2).2 F 1099511627776 v2 HO2.out.rd (by omega) (by have := Ms.reads_le ⟨ps, 0⟩ 2; simp only at this; omega)
    refine hrn2.mono ?_
    intro e y2 hy2
    obtain ⟨rfl, ⟨u2, hu2⟩, hf2, ho3⟩ := HO2.out.step (k := 2) (by omega) hy2
    clear hrn2 hy2
    generalize hoo2 : Ms.one (Ms.reads ⟨ps, 0⟩ 2).2 = o2 at *
    clear hoo2
    obtain ⟨v3, hv3⟩ : ∃ v, y2.setCell ⟨q + 1, 2, none⟩ (.int .i64 o2) = v := ⟨_, rfl⟩
    rw [hv3] at ho3
    have HO3 : RowKit.Hid (OneAt w q F ps 3 v3) := Lib.hid ho3
    clear ho3
    go_wp2_with fail
    clear hv3 hu2 hf2
    have hrn3 := refRNum_any q (Ms.reads ⟨ps, 0⟩ 3).2 F 1099511627776 v3 HO3.out.rd (by omega) (by have := Ms.reads_le ⟨ps, 0⟩ 3; simp only at this; omega)
    refine hrn3.mono ?_
    intro e y3 hy3
    obtain ⟨rfl, ⟨u3, hu3⟩, hf3, ho4⟩ := HO3.out.step (k := 3) (by omega) hy3
    clear hrn3 hy3
    generalize hoo3 : Ms.one (Ms.reads ⟨ps, 0⟩ 3).2 = o3 at *
    clear hoo3
    obtain ⟨v4, hv4⟩ : ∃ v, y3.setCell ⟨q + 1, 3, none⟩ (.int .i64 o3) = v := ⟨_, rfl⟩
    rw [hv4] at ho4
    have HO4 : RowKit.Hid (OneAt w q F ps 4 v4) := Lib.hid ho4
    clear ho4
    go_wp2_with fail
    clear hv4 hu3 hf3
    have hrn4 := refRNum_any q (Ms.reads ⟨ps, 0⟩ 4).2 F 1099511627776 v4 HO4.out.rd (by omega) (by have := Ms.reads_le ⟨ps, 0⟩ 4; simp only at this; omega)
    refine hrn4.mono ?_
    intro e y4 hy4
    obtain ⟨rfl, ⟨u4, hu4⟩, hf4, ho5⟩ := HO4.out.step (k := 4) (by omega) hy4
    clear hrn4 hy4
    generalize hoo4 : Ms.one (Ms.reads ⟨ps, 0⟩ 4).2 = o4 at *
    clear hoo4
    obtain ⟨v5, hv5⟩ : ∃ v, y4.setCell ⟨q + 1, 4, none⟩ (.int .i64 o4) = v := ⟨_, rfl⟩
    rw [hv5] at ho5
    have HO5 : RowKit.Hid (OneAt w q F ps 5 v5) := Lib.hid ho5
    clear ho5
    have hrt : R = if (Ms.read ps).2 = true ∧ 0 < (Ms.read ps).1.gen ∧ (Ms.read ps).1.gen % 2 = odd then (Ms.read ps).1 else Ms.zero := by rw [← HR.out, if_neg (by simp)]; rfl
    have hgb := Ms.read_gen ps
    unfold Ms.read at hrt hgb
    have hkm := HO5.out.m
    have hkz := HO5.out.z
    obtain ⟨A5, n5, c5, hk5, _⟩ := HO5.out.rd
    obtain ⟨t5, ht5⟩ : ∃ t, Ms.reads ⟨ps, 0⟩ 5 = t := ⟨_, rfl⟩
    rw [ht5] at hrt hgb hkm hk5
    obtain ⟨l5, r5⟩ := t5
    simp only at hrt hgb hkm hk5
    generalize Ms.mOf l5 = m at *
    have x1 : v5.cell? ⟨q, 1, none⟩ = some (.int .i64 (r5.e : Nat)) := hk5.cell 1
    have hc0 : v5.cell? ⟨q + 1, 0, none⟩ = some (.int .i64 m.gen) := hkm.cell 0
    have hc1 : v5.cell? ⟨q + 1, 1, none⟩ = some (.int .i64 m.inc) := hkm.cell 1
    have hc2 : v5.cell? ⟨q + 1, 2, none⟩ = some (.int .i64 m.first) := hkm.cell 2
    have hc3 : v5.cell? ⟨q + 1, 3, none⟩ = some (.int .i64 m.lsn) := hkm.cell 3
    have hc4 : v5.cell? ⟨q + 1, 4, none⟩ = some (.int .i64 m.check) := hkm.cell 4
    have z0 : v5.cell? ⟨w.heap.size, 0, none⟩ = some (.int .i64 0) := hkz.cell 0
    have z1 : v5.cell? ⟨w.heap.size, 1, none⟩ = some (.int .i64 0) := hkz.cell 1
    have z2 : v5.cell? ⟨w.heap.size, 2, none⟩ = some (.int .i64 0) := hkz.cell 2
    have z3 : v5.cell? ⟨w.heap.size, 3, none⟩ = some (.int .i64 0) := hkz.cell 3
    have z4 : v5.cell? ⟨w.heap.size, 4, none⟩ = some (.int .i64 0) := hkz.cell 4
    have zf := fun i => hkz.free i
    have htm : m.gen.tmod 2 = m.gen % 2 := Int.tmod_eq_emod_of_nonneg hgb.1
    have HZ := Lib.hid (And.intro hkz HO5.out.b)
    have HT := Lib.hid hrt
    clear hkm hkz hk5 hrt ht5 HR
    by_cases hcond : r5.e = 0 ∧ 0 < m.gen ∧ m.gen % 2 = odd
    · obtain ⟨k1, k2, k3⟩ := hcond
      have hRR : m = R := by rw [HT.out, if_pos ⟨by simpa using k1, k2, k3⟩]
      subst hRR
      have g1 : ((r5.e : Int) != 0) = false := by rw [k1]; rfl
      have g2 : decide (m.gen < 1) = false := by simp; omega
      have g3 : (m.gen % 2 != odd) = false := by simpa using k3
      clear k1 k2 k3
      go_wp2
      obtain ⟨⟨p0, p1, p2, p3, p4⟩, hbe⟩ := ended m.gen m.inc m.first m.lsn m.check HZ.out.1 HZ.out.2 (Nat.le_refl _)
      simp [bodyPost, results, Try.results67, go_sem, p0, p1, p2, p3, p4]
      exact hbe
    · have hRR : R = Ms.zero := by rw [HT.out, if_neg (fun h => hcond ⟨by simpa using h.1, h.2.1, h.2.2⟩)]
      subst hRR
      have hg : (((r5.e : Int) != 0) = true) ∨ (((r5.e : Int) != 0) = false ∧ decide (m.gen < 1) = true) ∨ (((r5.e : Int) != 0) = false ∧ decide (m.gen < 1) = false ∧ (m.gen % 2 != odd) = true) := by
        by_cases k1 : r5.e = 0
        · have g1 : ((r5.e : Int) != 0) = false := by rw [k1]; rfl
          by_cases k2 : m.gen < 1
          · exact .inr (.inl ⟨g1, by simpa using k2⟩)
          · exact .inr (.inr ⟨g1, by simpa using k2, by simpa using fun k3 => hcond ⟨k1, by omega, k3⟩⟩)
        · exact .inl (by rw [bne_iff_ne]; omega)
      clear hcond
      rcases hg with g1 | ⟨g1, g2⟩ | ⟨g1, g2, g3⟩
      all_goals
        go_wp2
        obtain ⟨⟨p0, p1, p2, p3, p4⟩, hbe⟩ := ended 0 0 0 0 0 HZ.out.1 HZ.out.2 (Nat.le_refl _)
        simp [bodyPost, results, Try.results67, go_sem, p0, p1, p2, p3, p4, Ms.zero]
        exact hbe
  · have hg : ((er : Int) != 0) = true := by rw [bne_iff_ne]; omega
    have hRR : R = Ms.zero := by rw [← HR.out, if_pos he]; rfl
    subst hRR
    clear he
    go_enter Try.func67, Try.ntmps67
    go_wp2_with fail
    refine H.out.2.2.mono ?_
    rintro e w1 ⟨B1, c1, rfl, hB1, hc1, hm1, hb1⟩
    simp only at hB1 hc1 ⊢
    have hbw := H.out.1.trans (hb1.mono H.out.1.size)
    have hkz : Blk w1 w.heap.size 48 (mCells Ms.zero) := H.out.2.1.below hb1 (by simp)
    have z0 : w1.cell? ⟨w.heap.size, 0, none⟩ = some (.int .i64 0) := hkz.cell 0
    have z1 : w1.cell? ⟨w.heap.size, 1, none⟩ = some (.int .i64 0) := hkz.cell 1
    have z2 : w1.cell? ⟨w.heap.size, 2, none⟩ = some (.int .i64 0) := hkz.cell 2
    have z3 : w1.cell? ⟨w.heap.size, 3, none⟩ = some (.int .i64 0) := hkz.cell 3
    have z4 : w1.cell? ⟨w.heap.size, 4, none⟩ = some (.int .i64 0) := hkz.cell 4
    have zf := fun i => hkz.free i
    have HZ := Lib.hid (And.intro hkz hbw)
    clear hB1 hb1 hbw hkz
    go_wp2
    obtain ⟨⟨p0, p1, p2, p3, p4⟩, hbe⟩ := ended 0 0 0 0 0 HZ.out.1 HZ.out.2 (Nat.le_refl _)
    simp [bodyPost, results, Try.results67, go_sem, p0, p1, p2, p3, p4, Ms.zero]
    exact hbe
namespace Ms
def best (x y : M) : M := if x.gen < y.gen then y else x
theorem oneM_gen (s : List UInt8) (n : Int) : 0 ≤ (oneM s n).gen ∧ ((oneM s n).gen = 0 → oneM s n = zero) := by
  unfold oneM
  split
  · exact ⟨Int.le_refl _, fun _ => rfl⟩
  · unfold take
    split
    · rename_i h
      have h2 : (0 : Int) < _ := h.2.1
      exact ⟨by omega, fun e => by omega⟩
    · exact ⟨Int.le_refl _, fun _ => rfl⟩
end Ms
set_option maxHeartbeats 8000000 in
theorem ref06load_any (A : Option Addr) (n cap : Nat) (bs : List UInt8) (B : Option Addr) (n2 cap2 : Nat) (cs : List UInt8) (w : World) (hA : BS w A n bs) (hB : BS w B n2 cs) (hn : n ≤ 1000) (hnc : n ≤ cap) (hcm : cap ≤ 9223372036854775807) (hn2 : n2 ≤ 1000) (hnc2 : n2 ≤ cap2) (hcm2 : cap2 ≤ 9223372036854775807) :
    Calls Try.prog 29 #[.slice A n cap, .slice B n2 cap2] w fun e w' => e = .returned (.tuple #[mVal (Ms.best (Ms.oneM bs 0) (Ms.oneM cs 1)), .int .i64 (if (Ms.best (Ms.oneM bs 0) (Ms.oneM cs 1)).gen = 0 then 60 else 0)]) ∧ Below w.heap.size w w' := by
  have hb0 : Below w.heap.size w (w.alloc (.cells (mCells Ms.zero) 48)) := (Below.refl _ _).alloc (Nat.le_refl _) _
  have hblk : Blk (w.alloc (.cells (mCells Ms.zero) 48)) w.heap.size 48 (mCells Ms.zero) := Blk.new _ _ _
  have h1 := ref06one_any A n cap bs 0 (w.alloc (.cells (mCells Ms.zero) 48)) (hA.below hb0) (by omega) hnc hcm
  have h2 := fun W (hb : Below w.heap.size w W) => ref06one_any B n2 cap2 cs 1 W (hB.below hb) (by omega) hnc2 hcm2
  generalize Ms.oneM bs 0 = x at *
  generalize Ms.oneM cs 1 = y at *
  have H := Lib.hid (And.intro hb0 (And.intro hblk (And.intro h1 h2)))
  clear hb0 hblk h1 h2 hA hB
  unfold Ms.best
  by_cases hlt : x.gen < y.gen
  · rw [if_pos hlt]
    have g1 : decide (x.gen < y.gen) = true := by simpa using hlt
    clear hlt
    by_cases hz : y.gen = 0
    · rw [if_pos hz]
      have g2 : (y.gen == 0) = true := by simpa using hz
      clear hz
      unfold mVal mCells Ms.zero at *
      go_enter Try.func29, Try.ntmps29
      go_wp2_with fail
      refine H.out.2.2.1.mono ?_
      rintro e w1 ⟨rfl, hb1⟩
      have H1 := Lib.hid (And.intro (H.out.1.trans (hb1.mono H.out.1.size)) (H.out.2.1.below hb1 (by simp)))
      clear hb1
      go_wp2_with fail
      refine (H.out.2.2.2 _ H1.out.1).mono ?_
      rintro e w2 ⟨rfl, hb2⟩
      have hbw := H1.out.1.trans (hb2.mono H1.out.1.size)
      have hkz : Blk w2 w.heap.size 48 (mCells Ms.zero) := H1.out.2.below hb2 H1.out.2.lt
      have z0 : w2.cell? ⟨w.heap.size, 0, none⟩ = some (.int .i64 0) := hkz.cell 0
      have z1 : w2.cell? ⟨w.heap.size, 1, none⟩ = some (.int .i64 0) := hkz.cell 1
      have z2 : w2.cell? ⟨w.heap.size, 2, none⟩ = some (.int .i64 0) := hkz.cell 2
      have z3 : w2.cell? ⟨w.heap.size, 3, none⟩ = some (.int .i64 0) := hkz.cell 3
      have z4 : w2.cell? ⟨w.heap.size, 4, none⟩ = some (.int .i64 0) := hkz.cell 4
      have zf := fun i => hkz.free i
      have hlt2 := hkz.lt
      have HZ := Lib.hid (And.intro hkz hbw)
      clear hb2 hbw hkz
      go_wp2
      obtain ⟨W5, hW5⟩ : ∃ W, (((((w2.setCell ⟨w.heap.size, 0, none⟩ (.int .i64 y.gen)).setCell ⟨w.heap.size, 1, none⟩ (.int .i64 y.inc)).setCell ⟨w.heap.size, 2, none⟩ (.int .i64 y.first)).setCell ⟨w.heap.size, 3, none⟩ (.int .i64 y.lsn)).setCell ⟨w.heap.size, 4, none⟩ (.int .i64 y.check)) = W := ⟨_, rfl⟩
      have hB := blk_puts (m := y) HZ.out.1
      have hF := fr_puts (b := w.heap.size) (m := y) (F := fun i => w.heap.size ≤ i) (Fr.refl _ w2) (fun _ => Nat.le_refl _)
      rw [hW5] at hB hF ⊢
      have p0 : ∀ o1 o2, ((W5.alloc o1).alloc o2).cell? ⟨w.heap.size, 0, none⟩ = some (.int .i64 y.gen) := fun o1 o2 => ((hB.alloc o1).alloc o2).cell 0
      have p1 : ∀ o1 o2, ((W5.alloc o1).alloc o2).cell? ⟨w.heap.size, 1, none⟩ = some (.int .i64 y.inc) := fun o1 o2 => ((hB.alloc o1).alloc o2).cell 1
      have p2 : ∀ o1 o2, ((W5.alloc o1).alloc o2).cell? ⟨w.heap.size, 2, none⟩ = some (.int .i64 y.first) := fun o1 o2 => ((hB.alloc o1).alloc o2).cell 2
      have p3 : ∀ o1 o2, ((W5.alloc o1).alloc o2).cell? ⟨w.heap.size, 3, none⟩ = some (.int .i64 y.lsn) := fun o1 o2 => ((hB.alloc o1).alloc o2).cell 3
      have p4 : ∀ o1 o2, ((W5.alloc o1).alloc o2).cell? ⟨w.heap.size, 4, none⟩ = some (.int .i64 y.check) := fun o1 o2 => ((hB.alloc o1).alloc o2).cell 4
      have hbe := HZ.out.2.trans (hF.below HZ.out.2.size (fun i hi => hi))
      clear hW5 hB hF
      simp [bodyPost, results, Try.results29, go_sem, p0, p1, p2, p3, p4]
      exact (hbe.alloc hbe.size _).alloc (by simp; have := hbe.size; omega) _
    · rw [if_neg hz]
      have g2 : (y.gen == 0) = false := by simpa using hz
      clear hz
      unfold mVal mCells Ms.zero at *
      go_enter Try.func29, Try.ntmps29
      go_wp2_with fail
      refine H.out.2.2.1.mono ?_
      rintro e w1 ⟨rfl, hb1⟩
      have H1 := Lib.hid (And.intro (H.out.1.trans (hb1.mono H.out.1.size)) (H.out.2.1.below hb1 (by simp)))
      clear hb1
      go_wp2_with fail
      refine (H.out.2.2.2 _ H1.out.1).mono ?_
      rintro e w2 ⟨rfl, hb2⟩
      have hbw := H1.out.1.trans (hb2.mono H1.out.1.size)
      have hkz : Blk w2 w.heap.size 48 (mCells Ms.zero) := H1.out.2.below hb2 H1.out.2.lt
      have z0 : w2.cell? ⟨w.heap.size, 0, none⟩ = some (.int .i64 0) := hkz.cell 0
      have z1 : w2.cell? ⟨w.heap.size, 1, none⟩ = some (.int .i64 0) := hkz.cell 1
      have z2 : w2.cell? ⟨w.heap.size, 2, none⟩ = some (.int .i64 0) := hkz.cell 2
      have z3 : w2.cell? ⟨w.heap.size, 3, none⟩ = some (.int .i64 0) := hkz.cell 3
      have z4 : w2.cell? ⟨w.heap.size, 4, none⟩ = some (.int .i64 0) := hkz.cell 4
      have zf := fun i => hkz.free i
      have hlt2 := hkz.lt
      have HZ := Lib.hid (And.intro hkz hbw)
      clear hb2 hbw hkz
      go_wp2
      obtain ⟨W5, hW5⟩ : ∃ W, (((((w2.setCell ⟨w.heap.size, 0, none⟩ (.int .i64 y.gen)).setCell ⟨w.heap.size, 1, none⟩ (.int .i64 y.inc)).setCell ⟨w.heap.size, 2, none⟩ (.int .i64 y.first)).setCell ⟨w.heap.size, 3, none⟩ (.int .i64 y.lsn)).setCell ⟨w.heap.size, 4, none⟩ (.int .i64 y.check)) = W := ⟨_, rfl⟩
      have hB := blk_puts (m := y) HZ.out.1
      have hF := fr_puts (b := w.heap.size) (m := y) (F := fun i => w.heap.size ≤ i) (Fr.refl _ w2) (fun _ => Nat.le_refl _)
      rw [hW5] at hB hF ⊢
      have p0 : ∀ o1 o2, ((W5.alloc o1).alloc o2).cell? ⟨w.heap.size, 0, none⟩ = some (.int .i64 y.gen) := fun o1 o2 => ((hB.alloc o1).alloc o2).cell 0
      have p1 : ∀ o1 o2, ((W5.alloc o1).alloc o2).cell? ⟨w.heap.size, 1, none⟩ = some (.int .i64 y.inc) := fun o1 o2 => ((hB.alloc o1).alloc o2).cell 1
      have p2 : ∀ o1 o2, ((W5.alloc o1).alloc o2).cell? ⟨w.heap.size, 2, none⟩ = some (.int .i64 y.first) := fun o1 o2 => ((hB.alloc o1).alloc o2).cell 2
      have p3 : ∀ o1 o2, ((W5.alloc o1).alloc o2).cell? ⟨w.heap.size, 3, none⟩ = some (.int .i64 y.lsn) := fun o1 o2 => ((hB.alloc o1).alloc o2).cell 3
      have p4 : ∀ o1 o2, ((W5.alloc o1).alloc o2).cell? ⟨w.heap.size, 4, none⟩ = some (.int .i64 y.check) := fun o1 o2 => ((hB.alloc o1).alloc o2).cell 4
      have hbe := HZ.out.2.trans (hF.below HZ.out.2.size (fun i hi => hi))
      clear hW5 hB hF
      simp [bodyPost, results, Try.results29, go_sem, p0, p1, p2, p3, p4]
      exact (hbe.alloc hbe.size _).alloc (by simp; have := hbe.size; omega) _
  · rw [if_neg hlt]
    have g1 : decide (x.gen < y.gen) = false := by simpa using hlt
    clear hlt
    by_cases hz : x.gen = 0
    · rw [if_pos hz]
      have g2 : (x.gen == 0) = true := by simpa using hz
      clear hz
      unfold mVal mCells Ms.zero at *
      go_enter Try.func29, Try.ntmps29
      go_wp2_with fail
      refine H.out.2.2.1.mono ?_
      rintro e w1 ⟨rfl, hb1⟩
      have H1 := Lib.hid (And.intro (H.out.1.trans (hb1.mono H.out.1.size)) (H.out.2.1.below hb1 (by simp)))
      clear hb1
      go_wp2_with fail
      refine (H.out.2.2.2 _ H1.out.1).mono ?_
      rintro e w2 ⟨rfl, hb2⟩
      have hbw := H1.out.1.trans (hb2.mono H1.out.1.size)
      have hkz : Blk w2 w.heap.size 48 (mCells Ms.zero) := H1.out.2.below hb2 H1.out.2.lt
      have z0 : w2.cell? ⟨w.heap.size, 0, none⟩ = some (.int .i64 0) := hkz.cell 0
      have z1 : w2.cell? ⟨w.heap.size, 1, none⟩ = some (.int .i64 0) := hkz.cell 1
      have z2 : w2.cell? ⟨w.heap.size, 2, none⟩ = some (.int .i64 0) := hkz.cell 2
      have z3 : w2.cell? ⟨w.heap.size, 3, none⟩ = some (.int .i64 0) := hkz.cell 3
      have z4 : w2.cell? ⟨w.heap.size, 4, none⟩ = some (.int .i64 0) := hkz.cell 4
      have zf := fun i => hkz.free i
      have hlt2 := hkz.lt
      have HZ := Lib.hid (And.intro hkz hbw)
      clear hb2 hbw hkz
      go_wp2
      obtain ⟨W5, hW5⟩ : ∃ W, (((((w2.setCell ⟨w.heap.size, 0, none⟩ (.int .i64 x.gen)).setCell ⟨w.heap.size, 1, none⟩ (.int .i64 x.inc)).setCell ⟨w.heap.size, 2, none⟩ (.int .i64 x.first)).setCell ⟨w.heap.size, 3, none⟩ (.int .i64 x.lsn)).setCell ⟨w.heap.size, 4, none⟩ (.int .i64 x.check)) = W := ⟨_, rfl⟩
      have hB := blk_puts (m := x) HZ.out.1
      have hF := fr_puts (b := w.heap.size) (m := x) (F := fun i => w.heap.size ≤ i) (Fr.refl _ w2) (fun _ => Nat.le_refl _)
      rw [hW5] at hB hF ⊢
      have p0 : ∀ o1 o2, ((W5.alloc o1).alloc o2).cell? ⟨w.heap.size, 0, none⟩ = some (.int .i64 x.gen) := fun o1 o2 => ((hB.alloc o1).alloc o2).cell 0
      have p1 : ∀ o1 o2, ((W5.alloc o1).alloc o2).cell? ⟨w.heap.size, 1, none⟩ = some (.int .i64 x.inc) := fun o1 o2 => ((hB.alloc o1).alloc o2).cell 1
      have p2 : ∀ o1 o2, ((W5.alloc o1).alloc o2).cell? ⟨w.heap.size, 2, none⟩ = some (.int .i64 x.first) := fun o1 o2 => ((hB.alloc o1).alloc o2).cell 2
      have p3 : ∀ o1 o2, ((W5.alloc o1).alloc o2).cell? ⟨w.heap.size, 3, none⟩ = some (.int .i64 x.lsn) := fun o1 o2 => ((hB.alloc o1).alloc o2).cell 3
      have p4 : ∀ o1 o2, ((W5.alloc o1).alloc o2).cell? ⟨w.heap.size, 4, none⟩ = some (.int .i64 x.check) := fun o1 o2 => ((hB.alloc o1).alloc o2).cell 4
      have hbe := HZ.out.2.trans (hF.below HZ.out.2.size (fun i hi => hi))
      clear hW5 hB hF
      simp [bodyPost, results, Try.results29, go_sem, p0, p1, p2, p3, p4]
      exact (hbe.alloc hbe.size _).alloc (by simp; have := hbe.size; omega) _
    · rw [if_neg hz]
      have g2 : (x.gen == 0) = false := by simpa using hz
      clear hz
      unfold mVal mCells Ms.zero at *
      go_enter Try.func29, Try.ntmps29
      go_wp2_with fail
      refine H.out.2.2.1.mono ?_
      rintro e w1 ⟨rfl, hb1⟩
      have H1 := Lib.hid (And.intro (H.out.1.trans (hb1.mono H.out.1.size)) (H.out.2.1.below hb1 (by simp)))
      clear hb1
      go_wp2_with fail
      refine (H.out.2.2.2 _ H1.out.1).mono ?_
      rintro e w2 ⟨rfl, hb2⟩
      have hbw := H1.out.1.trans (hb2.mono H1.out.1.size)
      have hkz : Blk w2 w.heap.size 48 (mCells Ms.zero) := H1.out.2.below hb2 H1.out.2.lt
      have z0 : w2.cell? ⟨w.heap.size, 0, none⟩ = some (.int .i64 0) := hkz.cell 0
      have z1 : w2.cell? ⟨w.heap.size, 1, none⟩ = some (.int .i64 0) := hkz.cell 1
      have z2 : w2.cell? ⟨w.heap.size, 2, none⟩ = some (.int .i64 0) := hkz.cell 2
      have z3 : w2.cell? ⟨w.heap.size, 3, none⟩ = some (.int .i64 0) := hkz.cell 3
      have z4 : w2.cell? ⟨w.heap.size, 4, none⟩ = some (.int .i64 0) := hkz.cell 4
      have zf := fun i => hkz.free i
      have hlt2 := hkz.lt
      have HZ := Lib.hid (And.intro hkz hbw)
      clear hb2 hbw hkz
      go_wp2
      obtain ⟨W5, hW5⟩ : ∃ W, (((((w2.setCell ⟨w.heap.size, 0, none⟩ (.int .i64 x.gen)).setCell ⟨w.heap.size, 1, none⟩ (.int .i64 x.inc)).setCell ⟨w.heap.size, 2, none⟩ (.int .i64 x.first)).setCell ⟨w.heap.size, 3, none⟩ (.int .i64 x.lsn)).setCell ⟨w.heap.size, 4, none⟩ (.int .i64 x.check)) = W := ⟨_, rfl⟩
      have hB := blk_puts (m := x) HZ.out.1
      have hF := fr_puts (b := w.heap.size) (m := x) (F := fun i => w.heap.size ≤ i) (Fr.refl _ w2) (fun _ => Nat.le_refl _)
      rw [hW5] at hB hF ⊢
      have p0 : ∀ o1 o2, ((W5.alloc o1).alloc o2).cell? ⟨w.heap.size, 0, none⟩ = some (.int .i64 x.gen) := fun o1 o2 => ((hB.alloc o1).alloc o2).cell 0
      have p1 : ∀ o1 o2, ((W5.alloc o1).alloc o2).cell? ⟨w.heap.size, 1, none⟩ = some (.int .i64 x.inc) := fun o1 o2 => ((hB.alloc o1).alloc o2).cell 1
      have p2 : ∀ o1 o2, ((W5.alloc o1).alloc o2).cell? ⟨w.heap.size, 2, none⟩ = some (.int .i64 x.first) := fun o1 o2 => ((hB.alloc o1).alloc o2).cell 2
      have p3 : ∀ o1 o2, ((W5.alloc o1).alloc o2).cell? ⟨w.heap.size, 3, none⟩ = some (.int .i64 x.lsn) := fun o1 o2 => ((hB.alloc o1).alloc o2).cell 3
      have p4 : ∀ o1 o2, ((W5.alloc o1).alloc o2).cell? ⟨w.heap.size, 4, none⟩ = some (.int .i64 x.check) := fun o1 o2 => ((hB.alloc o1).alloc o2).cell 4
      have hbe := HZ.out.2.trans (hF.below HZ.out.2.size (fun i hi => hi))
      clear hW5 hB hF
      simp [bodyPost, results, Try.results29, go_sem, p0, p1, p2, p3, p4]
      exact (hbe.alloc hbe.size _).alloc (by simp; have := hbe.size; omega) _
end Go.Proofs.Ytfcmlfcpgboigaa
