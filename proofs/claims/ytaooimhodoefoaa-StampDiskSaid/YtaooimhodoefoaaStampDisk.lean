/- StampDisk: Put and Get answer the disk's errors; too long a payload is refused; no condition. -/
import Derived.Test.YtaooimhodoefoaaStampRefs
import Derived.Test.YtaooimhodoefoaaOwn05
import Derived.Test.YtaooimhodoefoaaLift
import Derived.Test.YtaooimhodoefoaaPut
namespace Go.Proofs.Ytaooimhodoefoaa.stampDisk
open Go.ChangeShapes Go.WideShapes Go.ChangeAt Go.RowKit Mem Lift
set_option linter.unusedVariables false
set_option linter.unusedSimpArgs false

theorem at_in (d : Dk.D) (n : Int) (hs : d.size = 2) (h0 : 0 ≤ n) (h1 : n ≤ 1) : Dk.at_ d n = 0 := by unfold Dk.at_; rw [if_neg (by omega)]
theorem at_out (d : Dk.D) (n : Int) (hs : d.size = 2) (h : n < 0 ∨ 1 < n) : Dk.at_ d n = 1 := by unfold Dk.at_; rw [if_pos (by omega)]
theorem read_out (n : Int) (h : n < 0 ∨ 1 < n) : Dk.read (Dk.new 2) n = ([], 1) := by unfold Dk.read; rw [if_pos (by rw [at_out _ n rfl h]; simp)]
theorem read_in (n : Int) (h0 : 0 ≤ n) (h1 : n ≤ 1) : Dk.read (Dk.new 2) n = (Dk.zeros, 0) := by
  unfold Dk.read; rw [if_neg (by rw [at_in _ n rfl h0 h1]; simp)]; rfl
theorem put_out (n : Int) (bs : List UInt8) (h : n < 0 ∨ 1 < n) : Dk.put2 (Dk.new 2) n bs = (if 254 < bs.length then 12 else 1, Dk.new 2) := by
  unfold Dk.put2
  split
  · rfl
  · rw [if_pos (by rw [read_out n h]; simp), read_out n h]
theorem get_out (n : Int) (h : n < 0 ∨ 1 < n) : Dk.get2 (Dk.new 2) n = ([], 1) := by
  unfold Dk.get2; rw [if_pos (by rw [read_out n h]; simp), read_out n h]
theorem zeros_get (i : Nat) : Dk.zeros.getD i 0 = 0 := by
  unfold Dk.zeros
  rw [List.getD_eq_getElem?_getD, List.getElem?_replicate]
  split <;> rfl
theorem get_new (n : Int) (h0 : 0 ≤ n) (h1 : n ≤ 1) : Dk.get2 (Dk.new 2) n = ([], 50) := by
  unfold Dk.get2
  rw [if_neg (by rw [read_in n h0 h1]; simp)]
  show Stamp.openR Dk.zeros = ([], 50)
  unfold Stamp.openR
  rw [if_neg (by rw [Dk.zeros_length]; simp), if_neg]
  rw [openOk_false]
  · simp
  · exact .inr (.inl (by rw [zeros_get]; simp))
def sec (bs : List UInt8) : List UInt8 := Stamp.wrapB (Stamp.nextB Dk.zeros) bs
def d2 (n : Int) (bs : List UInt8) : Dk.D := Dk.put (Dk.step (Dk.new 2)).2 n (sec bs)
theorem put_in (n : Int) (bs : List UInt8) (h0 : 0 ≤ n) (h1 : n ≤ 1) (hl : bs.length ≤ 254) : Dk.put2 (Dk.new 2) n bs = (0, d2 n bs) := by
  unfold Dk.put2
  rw [if_neg (by omega), if_neg (by rw [read_in n h0 h1]; simp)]
  show Dk.write (Dk.new 2) n (sec bs) = _
  unfold Dk.write
  rw [if_neg (by rw [at_in _ n rfl h0 h1]; simp), if_neg (by unfold sec; rw [Stamp.wrapB_length _ _ hl]; simp), if_neg (by unfold Dk.step; simp [Dk.new])]
  rfl
theorem d2_cur (n : Int) (bs : List UInt8) : Dk.cur (d2 n bs) n = sec bs := by
  unfold Dk.cur
  have : (d2 n bs).now n = some (sec bs) := by
    show upd _ n (sec bs) n = _
    simp [upd]
  rw [this]; rfl
theorem d2_size (n : Int) (bs : List UInt8) : (d2 n bs).size = 2 := by
  show (Dk.step (Dk.new 2)).2.size = 2
  rw [Dk.step_size]; rfl
theorem d2_down (n : Int) (bs : List UInt8) : (d2 n bs).down = false := by
  show (Dk.step (Dk.new 2)).2.down = false
  unfold Dk.step; simp [Dk.new]
theorem get_in (n : Int) (bs : List UInt8) (h0 : 0 ≤ n) (h1 : n ≤ 1) (hl : bs.length ≤ 254) : Dk.get2 (d2 n bs) n = (bs ++ List.replicate (254 - bs.length) 0, 0) := by
  have hr : Dk.read (d2 n bs) n = (sec bs, 0) := by
    unfold Dk.read
    rw [if_neg (by rw [at_in _ n (d2_size n bs) h0 h1]; simp), d2_down, d2_cur]; rfl
  unfold Dk.get2
  rw [if_neg (by rw [hr]; simp), d2_cur]
  have hn := Stamp.nextB_range Dk.zeros
  unfold Stamp.openR sec
  rw [if_neg (by rw [Stamp.wrapB_length _ _ hl]; simp), Stamp.openOk_wrapB _ _ hl hn.1 hn.2, if_pos rfl, Stamp.openB_wrapB _ _ hl]
def d3 (n : Int) (bs : List UInt8) : Dk.D := { Dk.fused (d2 n bs) 0 with down := true }
theorem put_fuse (n : Int) (bs : List UInt8) (h0 : 0 ≤ n) (h1 : n ≤ 1) : Dk.put2 (Dk.fused (d2 n bs) 0) n [] = (40, d3 n bs) := by
  have hsz : (Dk.fused (d2 n bs) 0).size = 2 := d2_size n bs
  have hat := at_in _ n hsz h0 h1
  have hr : (Dk.read (Dk.fused (d2 n bs) 0) n).2 = 0 := by
    unfold Dk.read
    rw [if_neg (by rw [hat]; simp), show (Dk.fused (d2 n bs) 0).down = false from d2_down n bs]; rfl
  have hst : Dk.step (Dk.fused (d2 n bs) 0) = (40, d3 n bs) := by
    unfold Dk.step
    rw [if_pos]
    · rfl
    · show ((d2 n bs).down || max (0 : Int) (-1) == 0) = true
      rw [show max (0 : Int) (-1) = 0 by omega]; simp
  unfold Dk.put2
  rw [if_neg (by simp), if_neg (by simpa using hr)]
  unfold Dk.write
  rw [if_neg (by rw [hat]; simp), if_neg (by rw [Stamp.wrapB_length _ _ (by simp)]; simp), if_pos (by rw [hst]; simp), hst]
theorem put_down (n : Int) (bs : List UInt8) (h0 : 0 ≤ n) (h1 : n ≤ 1) : Dk.put2 (d3 n bs) n [] = (40, d3 n bs) := by
  have hr : Dk.read (d3 n bs) n = ([], 40) := by
    unfold Dk.read
    rw [if_neg (by rw [at_in (d3 n bs) n (d2_size n bs) h0 h1]; simp)]; rfl
  unfold Dk.put2
  rw [if_neg (by simp), if_pos (by rw [hr]; simp), hr]
theorem d2_ok (n : Int) (bs : List UInt8) (h0 : 0 ≤ n) (h1 : n ≤ 1) (hl : bs.length ≤ 254) : Dk.Ok (d2 n bs) := by
  refine Dk.put_ok (Dk.step_ok (Dk.new_ok 2 (by omega))) n (sec bs) (Stamp.wrapB_length _ _ hl) ?_
  rw [Dk.step_size]
  show 0 ≤ n ∧ n < 2
  omega
theorem d3_ok (n : Int) (bs : List UInt8) (h0 : 0 ≤ n) (h1 : n ≤ 1) (hl : bs.length ≤ 254) : Dk.Ok (d3 n bs) := by
  have h := Dk.fused_ok (d2_ok n bs h0 h1 hl) 0 (by omega)
  exact ⟨h.size, h.syn, h.now, h.pend, h.fuse, h.syncs⟩
theorem d2_pend (n : Int) (bs : List UInt8) : (d2 n bs).pend.length = 1 := by
  show ((Dk.step (Dk.new 2)).2.pend ++ [(n, sec bs)]).length = 1
  rw [Dk.step_pend]; rfl

/-- more than seven bytes don't lie in a disk's own block -/
theorem bs_not_disk {w : World} {A : Option Addr} {n : Nat} {bs : List UInt8} {p r1 r2 : Nat} {v : Value} {d : Dk.D} (h : BS w A n bs) (hd : DiskIn w p d r1 r2 v) (hn : 8 ≤ n) : ∀ a, A = some a → ¬ a.block = p := by
  intro a e x
  obtain ⟨b, off, e', _, hc⟩ := h.2 (by omega)
  rw [e'] at e
  injection e with e
  subst e
  have hc7 := hc 7 (by rw [h.1]; omega)
  have x' : b = p := x
  subst x'
  rw [hd.blk.cell (off + 7), Array.getElem?_eq_none (by simp [diskCells])] at hc7
  cases hc7
/-- a disk that turned, and the world ahead -/
theorem to_below {w w1 w2 : World} {F F' : Nat → Prop} {p : Nat} {d : Dk.D} (hb : Below w.heap.size w w1) (hF : ∀ k, F k → w.heap.size ≤ k) (h : DiskTo w1 F p d w2) : Below w.heap.size w w2 ∧ ∃ F', DiskAt w2 p d F' ∧ ∀ k, F' k → w.heap.size ≤ k := by
  obtain ⟨F', h1, h2, h3⟩ := h
  refine ⟨hb.trans (h2.below hb.size hF), F', h1, fun k x => ?_⟩
  rcases h3 k x with x | x
  · exact hF k x
  · exact Nat.le_trans hb.size x

set_option maxRecDepth 100000 in
set_option maxHeartbeats 2000000 in
theorem walk_main (n : Int) (A : Option Addr) (m cap : Nat) (bs : List UInt8) (w : World) (hA : BS w A m bs) (hm : m ≤ 1000) :
    Calls Try.prog 7 #[.int .i64 n, .slice A m cap] w fun e w' => e = .returned (.bool true) ∧ Below w.heap.size w w' := by
  have hg1 : decide ((1000 : Int) < (m : Int)) = false := by simp; omega
  have hl := hA.1
  have H0 := Lib.hid (And.intro hA hl)
  clear hA hl
  go_enter Try.func7, Try.ntmps7
  go_wp2_with fail
  refine (new_any 2 (by omega) w).mono ?_
  rintro e w1 ⟨p, rfl, hb1, F, hD1, hF1⟩
  have H1 := Lib.hid (And.intro hb1 (And.intro hD1 hF1))
  clear hb1 hD1 hF1
  go_wp2_with fail
  refine (own05_any A m cap bs w1 (H0.out.1.below H1.out.1) (by omega)).mono ?_
  rintro e w2 ⟨v, rfl, hown, hb2⟩
  rw [H0.out.2] at hown
  obtain ⟨A2, c2, rfl⟩ := own_slice hown
  have hb02 : Below w.heap.size w w2 := H1.out.1.trans (hb2.mono H1.out.1.size)
  have hD2 : DiskAt w2 p (Dk.new 2) F := H1.out.2.1.keep hb2.size (fun k x => hb2.block k (H1.out.2.1.bound k x))
  have H2 := Lib.hid (And.intro hb02 (And.intro hD2 (And.intro H1.out.2.2 (BS.of_own hown))))
  clear H1 hown hb2 hb02 hD2
  go_wp2_with fail
  refine (put_any p (Dk.new 2) F n A2 m c2 bs w2 H2.out.2.1 (Dk.new_ok 2 (by omega)) H2.out.2.2.2 (by simp [Dk.new])).mono ?_
  rintro e w3 ⟨rfl, hT3⟩
  obtain ⟨hb3, F3, hD3, hF3⟩ := to_below (F' := F) H2.out.1 H2.out.2.2.1 hT3
  by_cases hn : n < 0 ∨ 1 < n
  · rw [put_out n bs hn] at hD3 ⊢
    have H3 := Lib.hid (And.intro hb3 (And.intro hD3 hF3))
    clear H2 hT3 hb3 hD3 hF3
    have hcase : (decide (n < 0) = true ∨ (decide (n < 0) = false ∧ decide (1 < n) = true)) := by
      by_cases h : n < 0
      · exact .inl (by simpa using h)
      · exact .inr ⟨by simpa using h, by simp; omega⟩
    have hz : (254 < bs.length) = (254 < m) := by rw [H0.out.2]
    by_cases h254 : 254 < m
    · rw [if_pos (by rw [hz]; exact h254)]
      have hd : decide (254 < (m : Int)) = true := by simp; omega
      clear hz
      go_wp2_with fail
      refine (get_any p (Dk.new 2) F3 n w3 H3.out.2.1 (Dk.new_ok 2 (by omega))).mono ?_
      rw [get_out n hn]
      rintro e w4 ⟨A4, c4, rfl, hB4, hc4, hm4, hb4'⟩
      have hb4 : Below w.heap.size w w4 := H3.out.1.trans (hb4'.mono H3.out.1.size)
      clear hB4 hc4 hm4 hb4' H3
      rcases hcase with hc | ⟨hc, hc1⟩
      all_goals
        go_wp2_with fail
        refine (put_nil 0 w4 none 0 0 (by omega)).mono ?_
        rintro e w5 ⟨rfl, hb5⟩
        go_wp2_with fail
        refine (awake05_any w5).mono ?_
        rintro e w6 ⟨rfl, hb6⟩
        go_wp2
        go_ret
        exact ⟨rfl, (hb4.trans (hb5.mono hb4.size)).trans (hb6.mono (Nat.le_trans hb4.size hb5.size))⟩
    · rw [if_neg (by rw [hz]; exact h254)]
      have hd : decide (254 < (m : Int)) = false := by simp; omega
      clear hz
      go_wp2_with fail
      refine (get_any p (Dk.new 2) F3 n w3 H3.out.2.1 (Dk.new_ok 2 (by omega))).mono ?_
      rw [get_out n hn]
      rintro e w4 ⟨A4, c4, rfl, hB4, hc4, hm4, hb4'⟩
      have hb4 : Below w.heap.size w w4 := H3.out.1.trans (hb4'.mono H3.out.1.size)
      clear hB4 hc4 hm4 hb4' H3
      rcases hcase with hc | ⟨hc, hc1⟩
      all_goals
        go_wp2_with fail
        refine (put_nil 0 w4 none 0 0 (by omega)).mono ?_
        rintro e w5 ⟨rfl, hb5⟩
        go_wp2_with fail
        refine (awake05_any w5).mono ?_
        rintro e w6 ⟨rfl, hb6⟩
        go_wp2
        go_ret
        exact ⟨rfl, (hb4.trans (hb5.mono hb4.size)).trans (hb6.mono (Nat.le_trans hb4.size hb5.size))⟩
  · have h0 : 0 ≤ n := by omega
    have h1 : n ≤ 1 := by omega
    have hc0 : decide (n < 0) = false := by simp; omega
    have hc1 : decide (1 < n) = false := by simp; omega
    by_cases h254 : 254 < m
    · have hd : decide (254 < (m : Int)) = true := by simp; omega
      have hp : Dk.put2 (Dk.new 2) n bs = (12, Dk.new 2) := by unfold Dk.put2; rw [if_pos (by rw [H0.out.2]; exact h254)]
      rw [hp] at hD3 ⊢
      have H3 := Lib.hid (And.intro hb3 (And.intro hD3 hF3))
      clear H2 hT3 hb3 hD3 hF3 hp
      go_wp2_with fail
      refine (get_any p (Dk.new 2) F3 n w3 H3.out.2.1 (Dk.new_ok 2 (by omega))).mono ?_
      rw [get_new n h0 h1]
      rintro e w4 ⟨A4, c4, rfl, hB4, hc4, hm4, hb4'⟩
      have hb4 : Below w.heap.size w w4 := H3.out.1.trans (hb4'.mono H3.out.1.size)
      clear hB4 hc4 hm4 hb4' H3
      go_wp2_with fail
      refine (awake05_any w4).mono ?_
      rintro e w6 ⟨rfl, hb6⟩
      go_wp2
      go_ret
      exact ⟨rfl, hb4.trans (hb6.mono hb4.size)⟩
    · have hd : decide (254 < (m : Int)) = false := by simp; omega
      have hbl : bs.length ≤ 254 := by rw [H0.out.2]; omega
      rw [put_in n bs h0 h1 hbl] at hD3 ⊢
      have H3 := Lib.hid (And.intro hb3 (And.intro hD3 (And.intro hF3 hbl)))
      clear H2 hT3 hb3 hD3 hF3 hbl
      have HS := Lib.hid (And.intro h0 h1)
      clear h0 h1 hn
      go_wp2_with fail
      refine (get_any p (d2 n bs) F3 n w3 H3.out.2.1 (d2_ok n bs HS.out.1 HS.out.2 H3.out.2.2.2)).mono ?_
      rw [get_in n bs HS.out.1 HS.out.2 H3.out.2.2.2]
      rintro e w4 ⟨A4, c4, rfl, hB4, hc4, hm4, hb4'⟩
      have hql : (bs ++ List.replicate (254 - bs.length) (0 : UInt8)).length = 254 := by have := H3.out.2.2.2; simp; omega
      have hqt : (bs ++ List.replicate (254 - bs.length) (0 : UInt8)).take m = bs := by rw [← H0.out.2, List.take_left]
      generalize bs ++ List.replicate (254 - bs.length) (0 : UInt8) = q at *
      simp only [hql] at hB4 hc4 ⊢
      have hb4 : Below w.heap.size w w4 := H3.out.1.trans (hb4'.mono H3.out.1.size)
      have hD4 : DiskAt w4 p (d2 n bs) F3 := H3.out.2.1.keep hb4'.size (fun k x => hb4'.block k (H3.out.2.1.bound k x))
      have H4 := Lib.hid (And.intro hb4 (And.intro hD4 (And.intro H3.out.2.2.1 (And.intro hB4 (And.intro hqt H3.out.2.2.2)))))
      clear hb4 hD4 hB4 hqt hb4' H3 hql
      obtain ⟨r1, r2, v, hd4, hF4, hFb4⟩ := H4.out.2.1
      go_wp2_with fail
      refine (fuse_any p r1 r2 v (d2 n bs) 0 w4 hd4).mono ?_
      rintro e w5 ⟨rfl, hd5, hf5⟩
      have hb5 : Below w.heap.size w w5 := H4.out.1.trans (hf5.below H4.out.1.size (fun k e => H4.out.2.2.1 k (hF4 k (.inl e))))
      have hD5 : DiskAt w5 p (Dk.fused (d2 n bs) 0) F3 := ⟨r1, r2, v, hd5, hF4, fun k x => by have := hFb4 k x; have := hf5.size; omega⟩
      have hB5 : BS w5 A4 254 q := BS.fr H4.out.2.2.2.1 hf5 (bs_not_disk H4.out.2.2.2.1 hd4 (by omega))
      have H5 := Lib.hid (And.intro hb5 (And.intro hD5 (And.intro H4.out.2.2.1 (And.intro hB5 (And.intro H4.out.2.2.2.2.1 H4.out.2.2.2.2.2)))))
      clear hd4 hF4 hFb4 hd5 hf5 hb5 hD5 hB5 H4
      go_wp2_with fail
      refine (same_any A4 A m m c4 cap (q.take m) bs w5 (BS.take_ H5.out.2.2.2.1 m (by omega)) (H0.out.1.below H5.out.1) (by omega) (by omega)).mono ?_
      rintro e w6 ⟨rfl, hd6⟩
      have hb6 := hd6.below
      have hb06 : Below w.heap.size w w6 := H5.out.1.trans (hb6.mono H5.out.1.size)
      have hD6 : DiskAt w6 p (Dk.fused (d2 n bs) 0) F3 := H5.out.2.1.keep hb6.size (fun k x => hb6.block k (H5.out.2.1.bound k x))
      rw [decide_eq_true H5.out.2.2.2.2.1]
      have H6 := Lib.hid (And.intro hb06 (And.intro hD6 (And.intro H5.out.2.2.1 H5.out.2.2.2.2.2)))
      clear H5 hd6 hb6 hb06 hD6
      go_wp2_with fail
      refine (put_any p _ F3 n none 0 0 [] w6 H6.out.2.1 (Dk.fused_ok (d2_ok n bs HS.out.1 HS.out.2 H6.out.2.2.2) 0 (by omega)) (BS.empty _ _) (by show (d2 n bs).pend.length ≤ _; rw [d2_pend]; omega)).mono ?_
      rw [put_fuse n bs HS.out.1 HS.out.2]
      rintro e w7 ⟨rfl, hT7⟩
      obtain ⟨hb7, F7, hD7, hF7⟩ := to_below (F' := F3) H6.out.1 H6.out.2.2.1 hT7
      have H7 := Lib.hid (And.intro hb7 (And.intro hD7 (And.intro hF7 H6.out.2.2.2)))
      clear H6 hT7 hb7 hD7 hF7
      go_wp2_with fail
      refine (put_any p _ F7 n none 0 0 [] w7 H7.out.2.1 (d3_ok n bs HS.out.1 HS.out.2 H7.out.2.2.2) (BS.empty _ _) (by show (d2 n bs).pend.length ≤ _; rw [d2_pend]; omega)).mono ?_
      rw [put_down n bs HS.out.1 HS.out.2]
      rintro e w8 ⟨rfl, hT8⟩
      obtain ⟨hb8, _⟩ := to_below (F' := F7) H7.out.1 H7.out.2.2.1 hT8
      clear H7 hT8
      go_wp2_with fail
      refine (awake05_any w8).mono ?_
      rintro e w9 ⟨rfl, hb9⟩
      go_wp2
      go_ret
      exact ⟨rfl, hb8.trans (hb9.mono hb8.size)⟩

set_option maxHeartbeats 400000 in
theorem walk (n : Int) (A : Option Addr) (m cap : Nat) (bs : List UInt8) (w : World) (h0 : -9223372036854775808 ≤ n) (h1 : n ≤ 9223372036854775807) (hA : BS w A m bs) (hnc : m ≤ cap) (hcm : cap ≤ maxLen) :
    Calls Try.prog 7 #[.int .i64 n, .slice A m cap] w fun e w' => e = .returned (.bool true) ∧ Below w.heap.size w w' := by
  by_cases h4 : m ≤ 1000
  · exact walk_main n A m cap bs w hA h4
  · have hg3 : decide ((1000 : Int) < (m : Int)) = true := by simp; omega
    clear hA hcm
    go_enter Try.func7, Try.ntmps7
    go_wp2_with fail
    refine (awake05_any w).mono ?_
    rintro e w2 ⟨rfl, hb2⟩
    go_wp2
    go_ret
    exact ⟨rfl, hb2⟩

theorem own : ownKnob Try.prog.godebug = none := by kernel_rfl
theorem laidOut : laidOutB Try.prog = true := by kernel_rfl
theorem params_ok : ∀ t ∈ Try.f7.params.toList, Try.prog.readableRec t = true ∧ t < Try.prog.types.size := by
  rw [Try.params7]
  intro t ht
  have ht' : t = 3 ∨ t = 22 := by
    simpa using ht
  rcases ht' with rfl | rfl
  · exact ⟨(show Try.prog.readableRec 3 = true by kernel_rfl), of_decide_eq_true (show decide (3 < Try.prog.types.size) = true by kernel_rfl)⟩
  · exact ⟨(show Try.prog.readableRec 22 = true by kernel_rfl), of_decide_eq_true (show decide (22 < Try.prog.types.size) = true by kernel_rfl)⟩

set_option maxRecDepth 100000 in
theorem contract (H : Type) (enc : TypeId × Value → H) (W : World) (base : Nat) (args : Array Value) (ds gs : List (DataW H)) (before : List MemPlace)
    (hval : ∀ (j : Nat) t v, Try.f7.params[j]? = some t → args[j]? = some v → Value.okWide Try.prog W .any base t v)
    (hW : DataW.Whole enc Try.prog Try.f7.params.toList Rows.stampDiskSpec.vars false W args.toList ds gs before) :
    Calls Try.prog 7 args W fun e W' => ∃ v, e = .returned v ∧ Rows.stampDiskSpec.post enc Try.prog Try.f7 false true false false W args v W' := by
  have hW' := hW
  obtain ⟨p, q, hA0, hV, rfl, hfz, hnd⟩ := hW
  have hA : DataW.TrodAll enc Try.prog W 0 (fun _ => true) true Try.f7.params.toList args.toList ds p := hA0
  rw [Try.params7] at hA hval
  obtain ⟨v0, vs0, d0, ds0, p0, q0, hargs, rfl, rfl, h0, r0⟩ := trodAll_cons hA
  obtain ⟨v1, vs1, d1, ds1, p1, q1, rfl, rfl, rfl, h1, r1⟩ := trodAll_cons r0
  obtain ⟨rfl, rfl, rfl⟩ := trodAll_nil r1
  obtain rfl : args = #[v0, v1] := by cases args; simp_all
  obtain ⟨rfl, rfl⟩ := trodVars_none hV
  obtain ⟨x0, rfl, rfl, rfl, w0⟩ := open_int Try.underlying3 (hval 0 3 v0 rfl rfl) h0
  have b0 := bounds_i64 w0
  obtain ⟨A1, n1, c1, bs1, rfl, bs1h, nc1, cm1, dd1⟩ := open_bytes Try.underlying22 Try.underlying5 (show Try.prog.cellsOf 5 = 1 by kernel_rfl) (hval 1 22 v1 rfl rfl) h1
  refine (walk x0 A1 n1 c1 bs1 W b0.1 b0.2 bs1h nc1 cm1).mono fun e W' ⟨he, bel⟩ => ?_
  exact ⟨_, he, post_true laidOut Try.underlying4 (show Try.f7.resultTypes = #[4] from rfl) params_ok rfl hW' rfl bel⟩

theorem laid_met (os : Os) : laidMet Try.prog Rows.stampDiskRow.laid ((World.holding Try.prog os ⟨#[], #[], []⟩).forCall (fun _ _ => 0) ⟨#[], #[.int .i64 0, .slice none 0 0], []⟩).memory :=
  laidMet_of_run' 8 (by kernel_rfl) (by kernel_rfl)
theorem reads (os : Os) {H : Type} (enc : TypeId × Value → H) : ∃ places, DataW.whole enc Try.prog ((World.holding Try.prog os ⟨#[], #[], []⟩).forCall (fun _ _ => 0) ⟨#[], #[.int .i64 0, .slice none 0 0], []⟩).memory Try.f7.params.toList Rows.stampDiskSpec.vars false (#[Value.int .i64 0, Value.slice none 0 0] : Array Value).toList 8 = some ([.lit (.int .i64 0), .nil], [], places) :=
  ⟨[], by kernel_rfl⟩
set_option maxRecDepth 100000 in
theorem lifted (os : Os) (started : os.Started) (H : Type) (enc : TypeId × Value → H) (F : Stop.Interp) :
    ReturnsInHanded {} Try.checked os 7 .any ((OpenSpec.ofChange Rows.stampDiskSpec).preRow enc Try.prog Try.f7 Rows.stampDiskRow.domain false Rows.stampDiskRow.laid) (((OpenSpec.ofChange Rows.stampDiskSpec).at F).post enc Try.prog Try.f7 false true false false) := by
  obtain ⟨places, hx⟩ := reads os enc
  refine returnsInHanded_of_row (C := Try.checked) (s := OpenSpec.ofChange Rows.stampDiskSpec) own started (by kernel_rfl) Try.func7
    (witness_row_at (enc := enc) (C := Try.checked) false (World.holding Try.prog os ⟨#[], #[], []⟩) #[.int .i64 0, .slice none 0 0] rfl (by kernel_rfl) (by kernel_rfl) (by kernel_rfl)
      (OpenSpec.preRow_of_cond 8 hx (by kernel_rfl) (fun k hk => by cases hk) (by kernel_rfl) (laid_met os))) ?_
  intro W base args ds gs before hval hW _ _ hsz hL _ _
  exact contract H enc W base args ds gs before hval hW
theorem said : Rows.StampDiskSaid :=
  OpenClaim.holds_of_cond 7 Try.f7 rfl rfl rfl rfl rfl rfl rfl ⟨rfl, rfl, rfl, rfl, rfl⟩ rfl rfl rfl rfl rfl (by kernel_rfl) Try.func7 (by kernel_rfl)
    (of_decide_eq_true (by kernel_rfl)) (by unfold Func.isWrapper; first | (rw [if_pos (by decide +kernel)]; kernel_rfl) | (rw [if_neg (by decide +kernel)]; exact ⟨rfl, rfl⟩))
    (fun os started H enc _ F => by rw [OpenClaim.pre_eq_preRow]; exact lifted os started H enc F)
#print axioms said
end Go.Proofs.Ytaooimhodoefoaa.stampDisk
