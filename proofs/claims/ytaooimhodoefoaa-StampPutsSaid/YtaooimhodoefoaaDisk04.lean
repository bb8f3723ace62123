/- trothlaw04's small functions: Full, awake. -/
import Derived.Test.YtaooimhodoefoaaDiskCrash
namespace Go.Proofs.Ytaooimhodoefoaa
open Go.RowKit Mem
set_option linter.unusedVariables false
set_option linter.unusedSimpArgs false

namespace Dk
def full (b : UInt8) : List UInt8 := List.replicate 256 b
theorem full_length (b : UInt8) : (full b).length = 256 := List.length_replicate
theorem full_get (b : UInt8) (j : Nat) (h : j < 256) : (full b).getD j 0 = b := by
  unfold full
  rw [List.getD_eq_getElem?_getD, List.getElem?_replicate, if_pos h]
  rfl
theorem step_on (d : D) (h1 : d.down = false) (h2 : d.fuse = -1) : step d = (0, d) := by
  unfold step
  rw [if_neg (by rw [h1, h2]; simp), if_neg (by omega)]
theorem write_on (d : D) (n : Int) (s : List UInt8) (hn : 0 ≤ n ∧ n < d.size) (hs : s.length = 256) (h1 : d.down = false) (h2 : d.fuse = -1) : write d n s = (0, put d n s) := by
  unfold write
  have : at_ d n = 0 := by unfold at_; rw [if_neg (by omega)]
  rw [if_neg (by omega), if_neg (by omega), step_on d h1 h2, if_neg (by simp)]
theorem sync_on (d : D) (h1 : d.down = false) (h2 : d.fuse = -1) : sync d = (0, synced d) := by
  unfold sync
  rw [step_on d h1 h2, if_neg (by simp)]
end Dk
set_option maxRecDepth 100000 in
set_option maxHeartbeats 1000000 in
theorem full_any (b : UInt8) (w : World) : Calls Try.prog 35 #[.int .u8 (b.toNat : Int)] w (OwnB 5 w (Dk.full b)) := by
  obtain ⟨i0, hi0, hz0, hz1, hz2⟩ := info_parts sinfo8
  have hmk := run_make_lit (P := Try.prog) 22 5 i0 Try.underlying22 hi0 hz0 hz1 hz2 256 256 rfl (by omega)
  clear hi0 hz0 hz1 hz2
  have hlen := Lib.hid (Dk.full_length b)
  go_enter Try.func35, Try.ntmps35
  go_wp2
  go_loopw [4] (fun i wr => ∃ (j : Nat), j ≤ 256 ∧ i = .int .i64 j ∧ wr.ownsRow w.heap.size 5 1 (.slice (some ⟨w.heap.size, 0, none⟩) 256 256) 256 (u8s (fillTo (Dk.full b) j)) ∧ Below w.heap.size w wr) (fun i _ => 256 - (intOf i).toNat)
  case atStart =>
    refine ⟨0, by omega, rfl, ?_, mkB_below _ _ _⟩
    rw [fillTo_zero, hlen.out, ← zerosA_list]
    exact World.ownsRow_lit w _ 256 (Nat.le_refl _) (by unfold maxLen; omega) (by rw [zerosA_size])
  case round =>
    obtain ⟨j, hj, rfl, ho, hb⟩ := hrel
    by_cases hlt : j < 256
    · have hcell : wr.cell? ⟨w.heap.size, j, none⟩ = some (Mem.u8 ((fillTo (Dk.full b) j).getD j 0)) := by
        rw [ho.cellAt j (by omega), u8s_getElem?, List.getD_eq_getElem?_getD, List.getElem?_eq_getElem (by rw [fillTo_length _ _ (by rw [hlen.out]; omega), hlen.out]; omega)]; rfl
      have hfr := ho.frozenAt j
      have hst := fillTo_set (Dk.full b) j (by rw [hlen.out]; omega)
      rw [Dk.full_get b j hlt] at hst
      generalize (fillTo (Dk.full b) j).getD j 0 = old at *
      have H := Lib.hid (And.intro ho (And.intro hb hst))
      clear ho hb hst
      go_wp2
      go_roundw
      case rel =>
        have h2 := H.out.1.stored j (Mem.u8 b)
        refine ⟨j + 1, by omega, by go_num, ?_, H.out.2.1.setCell (Nat.le_refl _) _⟩
        rw [← H.out.2.2, u8s_set]
        exact h2.1
      case measure => simp [intOf]; omega
    · obtain rfl : j = 256 := by omega
      have hf : fillTo (Dk.full b) 256 = Dk.full b := by
        have := fillTo_all (Dk.full b)
        rwa [hlen.out] at this
      rw [hf] at ho
      have H := Lib.hid (And.intro ho hb)
      clear ho hb hf
      go_wp2
      go_ret
      exact ⟨_, rfl, by rw [hlen.out]; exact H.out.1, H.out.2⟩

/-- A DISK OF THE CALL's OWN. -/
def OwnD (w0 w : World) (p : Nat) (d : Dk.D) : Prop := Below w0.heap.size w0 w ∧ ∃ F, DiskAt w p d F ∧ ∀ k, F k → w0.heap.size ≤ k
theorem OwnD.grow {w0 w w' : World} {p : Nat} {d : Dk.D} (h : OwnD w0 w p d) (hb : Below w.heap.size w w') : OwnD w0 w' p d := by
  obtain ⟨h1, F, h2, h3⟩ := h
  exact ⟨h1.trans (hb.mono h1.size), F, h2.keep hb.size (fun k x => hb.block k (h2.bound k x)), h3⟩
theorem OwnD.to {w0 w w' : World} {p : Nat} {d : Dk.D} {F : Nat → Prop} (h1 : Below w0.heap.size w0 w) (h3 : ∀ k, F k → w0.heap.size ≤ k) (h : DiskTo w F p d w') : OwnD w0 w' p d := by
  obtain ⟨F', g1, g2, g3⟩ := h
  refine ⟨h1.trans (g2.below h1.size h3), F', g1, fun k x => ?_⟩
  rcases g3 k x with x | x
  · exact h3 k x
  · exact Nat.le_trans h1.size x
/-- Write, of bytes that were made behind the disk -/
theorem own_write {w0 w1 w : World} {p : Nat} {d : Dk.D} (h : OwnD w0 w1 p d) (hb : Below w1.heap.size w1 w) (hok : Dk.Ok d) (n : Int) (A : Option Addr) (m cap : Nat) (bs : List UInt8) (hbs : BS w A m bs) (hA : ∀ a, A = some a → w1.heap.size ≤ a.block) (hlen : d.pend.length ≤ 1000000) :
    Calls Try.prog 36 #[.pointer (some ⟨p, 0, none⟩), .int .i64 n, .slice A m cap] w fun e w' => e = .returned (.int .i64 ((Dk.write d n bs).1 : Int)) ∧ OwnD w0 w' p (Dk.write d n bs).2 := by
  obtain ⟨h1, F, h2, h3⟩ := h
  have hD : DiskAt w p d F := h2.keep hb.size (fun k x => hb.block k (h2.bound k x))
  refine (write_any p d F n A m cap bs w hD hok hbs (fun a e x => ?_) hlen).mono ?_
  · have := hA a e; have := h2.bound _ x; omega
  · rintro e w' ⟨rfl, hT⟩
    exact ⟨rfl, OwnD.to (h1.trans (hb.mono h1.size)) h3 hT⟩
theorem own_sync {w0 w : World} {p : Nat} {d : Dk.D} (h : OwnD w0 w p d) (hok : Dk.Ok d) (hsy : d.syncs ≤ 1000000) :
    Calls Try.prog 39 #[.pointer (some ⟨p, 0, none⟩)] w fun e w' => e = .returned (.int .i64 ((Dk.sync d).1 : Int)) ∧ OwnD w0 w' p (Dk.sync d).2 := by
  obtain ⟨h1, F, h2, h3⟩ := h
  refine (sync_any p d F w h2 hok hsy).mono ?_
  rintro e w' ⟨rfl, hT⟩
  exact ⟨rfl, OwnD.to h1 h3 hT⟩
theorem own_new (n : Int) (hn : 1 ≤ n ∧ n ≤ 4096) (w0 w : World) (hb : Below w0.heap.size w0 w) : Calls Try.prog 24 #[.int .i64 n] w fun e w' => ∃ p, e = .returned (.tuple #[.pointer (some ⟨p, 0, none⟩), .int .i64 0]) ∧ OwnD w0 w' p (Dk.new n) := by
  refine (new_any n hn w).mono ?_
  rintro e w' ⟨p, rfl, h1, F, h2, h3⟩
  exact ⟨p, rfl, hb.trans (h1.mono hb.size), F, h2, fun k x => Nat.le_trans hb.size (h3 k x)⟩
theorem own_read {w0 w : World} {p : Nat} {d : Dk.D} (h : OwnD w0 w p d) (hok : Dk.Ok d) (n : Int) :
    Calls Try.prog 33 #[.pointer (some ⟨p, 0, none⟩), .int .i64 n] w (ReadE w (Dk.read d n)) := by
  obtain ⟨h1, F, h2, h3⟩ := h
  exact read_any p d F n w h2 hok
theorem own_crash {w0 w : World} {p : Nat} {d : Dk.D} (h : OwnD w0 w p d) (hok : Dk.Ok d) (AK : Option Addr) (nk ck : Nat) (ks : List Int) (torn : Bool) (cut : Int) (hK : IS w AK nk ks) (hnk : nk ≤ 1000000) (hpl : d.pend.length ≤ 1000000) :
    Calls Try.prog 31 #[.pointer (some ⟨p, 0, none⟩), .agg #[.slice AK nk ck, .bool torn, .int .i64 cut]] w fun e w' => ∃ x, e = .returned (.pointer (some ⟨x, 0, none⟩)) ∧ Below w.heap.size w w' ∧ OwnD w0 w' x (Dk.crash d ks torn cut) := by
  obtain ⟨h1, F, h2, h3⟩ := h
  refine (crash_any p d F AK nk ck ks torn cut w h2 hok hK hnk hpl).mono ?_
  rintro e w' ⟨x, rfl, g1, F', g2, g3⟩
  exact ⟨x, rfl, g1, h1.trans (g1.mono h1.size), F', g2, fun k y => Nat.le_trans h1.size (g3 k y)⟩
theorem own_cells {w0 w : World} {p : Nat} {d : Dk.D} (h : OwnD w0 w p d) : ∃ A c, w.cell? ⟨p, 0, none⟩ = some (.int .i64 d.size) ∧ w.cell? ⟨p, 3, none⟩ = some (.slice A d.pend.length c) ∧ w.cell? ⟨p, 4, none⟩ = some (.int .i64 d.fuse) ∧ w.cell? ⟨p, 5, none⟩ = some (.bool d.down) ∧ w.cell? ⟨p, 6, none⟩ = some (.int .i64 d.syncs) := by
  obtain ⟨h1, F, ⟨r1, r2, v, hd, _⟩, h3⟩ := h
  obtain ⟨c0, _, _, c3, c4, c5, c6⟩ := hd.cells
  obtain ⟨A, c, rfl⟩ := own_slice hd.row
  exact ⟨A, c, c0, c3, c4, c5, c6⟩
theorem own_fuse {w0 w : World} {p : Nat} {d : Dk.D} (h : OwnD w0 w p d) (n : Int) :
    Calls Try.prog 27 #[.pointer (some ⟨p, 0, none⟩), .int .i64 n] w fun e w' => e = .returned (.tuple #[]) ∧ OwnD w0 w' p (Dk.fused d n) := by
  obtain ⟨h1, F, ⟨r1, r2, v, hd, hF, hB⟩, h3⟩ := h
  refine (fuse_any p r1 r2 v d n w hd).mono ?_
  rintro e w' ⟨rfl, hd', hf⟩
  exact ⟨rfl, h1.trans (hf.below h1.size (fun k e => h3 k (hF k (.inl e)))), F, ⟨r1, r2, v, hd', hF, fun k x => by have := hB k x; have := hf.size; omega⟩, h3⟩

/-! awake -/
namespace Aw
def d1 : Dk.D := Dk.put (Dk.new 2) 0 (Dk.full 1)
def d2 : Dk.D := Dk.synced d1
def d3 : Dk.D := Dk.put d2 0 (Dk.full 2)
theorem ok0 : Dk.Ok (Dk.new 2) := Dk.new_ok 2 (by omega)
theorem ok1 : Dk.Ok d1 := Dk.put_ok ok0 0 _ (Dk.full_length 1) (by simp [Dk.new])
theorem ok2 : Dk.Ok d2 := Dk.synced_ok ok1
theorem ok3 : Dk.Ok d3 := Dk.put_ok ok2 0 _ (Dk.full_length 2) (by simp [d2, d1, Dk.synced, Dk.put, Dk.new])
theorem e1 : Dk.write (Dk.new 2) 0 (Dk.full 1) = (0, d1) := Dk.write_on _ _ _ (by simp [Dk.new]) (Dk.full_length 1) rfl rfl
theorem e2 : Dk.sync d1 = (0, d2) := Dk.sync_on _ rfl rfl
theorem e3 : Dk.write d2 0 (Dk.full 2) = (0, d3) := Dk.write_on _ _ _ (by simp [d2, d1, Dk.synced, Dk.put, Dk.new]) (Dk.full_length 2) rfl rfl
theorem p3 : d3.pend.length = 1 := rfl
def last : List UInt8 := (Dk.full 2).take 3 ++ (Dk.full 1).drop 3
theorem e4 : Dk.read (Dk.crash d3 [] true 3) 0 = (last, 0) := by
  have hc : Dk.cur (Dk.crash d3 [] true 3) 0 = last := by
    unfold Dk.cur
    show (Dk.crashTo d3 [] true 3 1 0).getD Dk.zeros = last
    show (Dk.mix d3.syn (0, Dk.full 2) (Dk.cutOf [] true 3 1 0) 0).getD Dk.zeros = last
    have : Dk.cutOf [] true 3 1 0 = 3 := by unfold Dk.cutOf; rw [if_pos (by simp)]; rfl
    rw [this]
    unfold Dk.mix
    rw [if_neg (by omega)]
    unfold upd
    rw [if_pos rfl]
    rfl
  unfold Dk.read
  rw [if_neg (by simp [Dk.at_, Dk.crash, d3, d2, d1, Dk.synced, Dk.put, Dk.new]), hc]
  rfl
theorem last_length : last.length = 256 := by
  unfold last
  rw [List.length_append, List.length_take, List.length_drop, Dk.full_length, Dk.full_length]
  omega
theorem last2 : last.getD 2 0 = 2 := by
  unfold last
  rw [List.getD_eq_getElem?_getD, List.getElem?_append_left (by rw [List.length_take, Dk.full_length]; omega), List.getElem?_take, if_pos (by omega), ← List.getD_eq_getElem?_getD, Dk.full_get _ _ (by omega)]
theorem last3 : last.getD 3 0 = 1 := by
  unfold last
  rw [List.getD_eq_getElem?_getD, List.getElem?_append_right (by rw [List.length_take, Dk.full_length]; omega), List.getElem?_drop, List.length_take, Dk.full_length, ← List.getD_eq_getElem?_getD, Dk.full_get _ _ (by omega)]
end Aw
theorem ownB_bs {e8 : TypeId} {w w' : World} {bs : List UInt8} {A : Option Addr} {n c : Nat} (h : w'.ownsRow w.heap.size e8 1 (.slice A n c) n (u8s bs)) : BS w' A n bs ∧ ∀ a, A = some a → w.heap.size ≤ a.block := by
  refine ⟨BS.of_own h, fun a e => ?_⟩
  rcases h.2 with ⟨h, _⟩ | ⟨g, cap, cur, h, hb, _⟩
  · injection h with h1; subst h1; cases e
  · injection h with h1; subst h1; cases e; exact hb
set_option maxRecDepth 100000 in
set_option maxHeartbeats 2000000 in
theorem awake04_any (w : World) : Calls Try.prog 29 #[] w fun e w' => e = .returned (.bool true) ∧ Below w.heap.size w w' := by
  go_enter Try.func29, Try.ntmps29
  go_wp2_with fail
  refine (own_new 2 (by omega) w w (Below.refl _ _)).mono ?_
  rintro e w1 ⟨p, rfl, h1⟩
  have H1 := Lib.hid h1
  clear h1
  go_wp2_with fail
  refine (full_any 1 w1).mono ?_
  rintro e w2 ⟨v, rfl, hown, hb2⟩
  rw [Dk.full_length] at hown
  obtain ⟨A2, c2, rfl⟩ := own_slice hown
  have H2 := Lib.hid (And.intro (ownB_bs hown) hb2)
  clear hown hb2
  go_wp2_with fail
  refine (own_write H1.out H2.out.2 Aw.ok0 0 A2 256 c2 (Dk.full 1) H2.out.1.1 H2.out.1.2 (by simp [Dk.new])).mono ?_
  rw [Aw.e1]
  rintro e w3 ⟨rfl, h3⟩
  have H3 := Lib.hid h3
  clear h3 H1 H2
  go_wp2_with fail
  refine (own_sync H3.out Aw.ok1 (by simp [Aw.d1, Dk.put, Dk.new])).mono ?_
  rw [Aw.e2]
  rintro e w4 ⟨rfl, h4⟩
  have H4 := Lib.hid h4
  clear h4 H3
  go_wp2_with fail
  refine (full_any 2 w4).mono ?_
  rintro e w5 ⟨v, rfl, hown, hb5⟩
  rw [Dk.full_length] at hown
  obtain ⟨A5, c5, rfl⟩ := own_slice hown
  have H5 := Lib.hid (And.intro (ownB_bs hown) hb5)
  clear hown hb5
  go_wp2_with fail
  refine (own_write H4.out H5.out.2 Aw.ok2 0 A5 256 c5 (Dk.full 2) H5.out.1.1 H5.out.1.2 (by simp [Aw.d2, Dk.synced])).mono ?_
  rw [Aw.e3]
  rintro e w6 ⟨rfl, h6⟩
  have H6 := Lib.hid h6
  clear h6 H4 H5
  obtain ⟨A6, c6, _, g3, _⟩ := own_cells H6.out
  rw [Aw.p3] at g3
  have HG := Lib.hid g3
  clear g3
  go_wp2_with fail
  refine (pending_any p A6 1 c6 w6 HG.out).mono ?_
  rintro e w7 ⟨rfl, hw7⟩
  subst hw7
  go_wp2_with fail
  refine (own_crash H6.out Aw.ok3 none 0 0 [] true 3 (IS.empty _ _) (by omega) (by rw [Aw.p3]; omega)).mono ?_
  rintro e w8 ⟨x, rfl, _, h8⟩
  have H8 := Lib.hid h8
  clear h8 H6 HG
  go_wp2_with fail
  refine (own_read H8.out (Dk.crash_ok Aw.ok3 [] true 3) 0).mono ?_
  rw [Aw.e4]
  rintro e w9 ⟨A9, c9, rfl, hB9, hc9, hm9, hb9, _⟩
  simp only [Aw.last_length] at hB9 hc9 ⊢
  obtain ⟨b, off, rfl, h92⟩ := hB9.at_ (k := 2) (by omega)
  obtain ⟨b', off', e', h93⟩ := hB9.at_ (k := 3) (by omega)
  injection e' with e'
  injection e' with e1 e2 _
  subst e1 e2
  rw [Aw.last2] at h92
  rw [Aw.last3] at h93
  have H9 := Lib.hid (H8.out.1.trans (hb9.mono H8.out.1.size))
  clear hB9 hb9 H8
  go_wp2
  go_ret
  exact ⟨rfl, H9.out⟩
end Go.Proofs.Ytaooimhodoefoaa
