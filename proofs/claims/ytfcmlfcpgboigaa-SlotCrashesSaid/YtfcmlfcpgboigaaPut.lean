/- What stamp.Put and stamp.Get do. -/
import Derived.Test.YtfcmlfcpgboigaaDiskWrite
namespace Go.Proofs.Ytfcmlfcpgboigaa
open Go.RowKit Mem
set_option linter.unusedVariables false
set_option linter.unusedSimpArgs false

namespace Dk
def put2 (d : D) (n : Int) (p : List UInt8) : Nat × D := if 254 < p.length then (12, d) else if (read d n).2 ≠ 0 then ((read d n).2, d) else write d n (Stamp.wrapB (Stamp.nextB (cur d n)) p)
def get2 (d : D) (n : Int) : List UInt8 × Nat := if (read d n).2 ≠ 0 then ([], (read d n).2) else Stamp.openR (cur d n)
theorem read_cases (d : D) (n : Int) : ((read d n).2 = 0 ∧ read d n = (cur d n, 0)) ∨ ((read d n).2 ≠ 0 ∧ (read d n).1 = []) := by
  unfold read
  split
  · exact .inr (by simp)
  · split
    · exact .inr (by simp)
    · exact .inl (by simp)
theorem read_err (d : D) (n : Int) : (read d n).2 = 0 ∨ (read d n).2 = 1 ∨ (read d n).2 = 40 := by
  unfold read
  split
  · simp
  · split <;> simp
end Dk
set_option maxRecDepth 100000 in
set_option maxHeartbeats 2000000 in
theorem put_any (p : Nat) (d : Dk.D) (F : Nat → Prop) (n : Int) (A : Option Addr) (m cap : Nat) (bs : List UInt8) (w : World) (hD : DiskAt w p d F) (hok : Dk.Ok d) (hbs : BS w A m bs) (hlen : d.pend.length ≤ 1000000) :
    Calls Try.prog 72 #[.pointer (some ⟨p, 0, none⟩), .int .i64 n, .slice A m cap] w (WriteTo w F p (Dk.put2 d n bs)) := by
  have hm := hbs.1
  by_cases h254 : 254 < m
  · have hR : Dk.put2 d n bs = (12, d) := by unfold Dk.put2; rw [if_pos (by omega)]
    rw [hR]
    have H := Lib.hid hD
    clear hR hD hok hbs
    have hd4 : decide (254 < (m : Int)) = true := by simp; omega
    go_enter Try.func72, Try.ntmps72
    go_wp2
    go_ret
    exact ⟨rfl, DiskAt.to H.out⟩
  · have hd4 : decide (254 < (m : Int)) = false := by simp; omega
    rcases Dk.read_cases d n with ⟨hr, hrr⟩ | ⟨hr, hrr⟩
    · have hR : Dk.put2 d n bs = Dk.write d n (Stamp.wrapB (Stamp.nextB (Dk.cur d n)) bs) := by unfold Dk.put2; rw [if_neg (by omega), if_neg (by simpa using hr)]
      rw [hR]
      have hcl := Dk.cur_length hok n
      have hnx : Stamp.nextR (Dk.cur d n) = (Stamp.nextB (Dk.cur d n), 0) := by unfold Stamp.nextR; rw [if_neg (by omega)]
      have hwr : Stamp.wrapR (Stamp.nextB (Dk.cur d n)) bs = (Stamp.wrapB (Stamp.nextB (Dk.cur d n)) bs, 0) := by
        have := Stamp.nextB_range (Dk.cur d n)
        unfold Stamp.wrapR; rw [if_neg (by omega), if_neg (by omega)]
      have H := Lib.hid (And.intro hD (And.intro hok (And.intro hbs (And.intro hlen (And.intro hrr (And.intro hnx hwr))))))
      have HL := Lib.hid (And.intro hcl hm)
      clear hR hD hok hbs hlen hr hrr hnx hwr hcl hm
      go_enter Try.func72, Try.ntmps72
      go_wp2_with fail
      refine (read_any p d F n w H.out.1 H.out.2.1).mono ?_
      rw [H.out.2.2.2.2.1]
      rintro e w1 ⟨A1, c1, rfl, hB1, hc1, hm1, hb1, hf1⟩
      rw [HL.out.1] at hB1 hc1
      rw [show (Dk.cur d n, 0).1.length = 256 from HL.out.1]
      have H1 := Lib.hid (And.intro hB1 hb1)
      clear hB1 hb1 hf1
      go_wp2_with fail
      refine (next_any A1 256 c1 (Dk.cur d n) w1 H1.out.1).mono ?_
      rw [H.out.2.2.2.2.2.1]
      rintro e w2 ⟨rfl, hw2⟩
      subst hw2
      generalize Stamp.nextB (Dk.cur d n) = mk at *
      go_wp2_with fail
      refine (wrap_own mk A m cap bs w1 (H.out.2.2.1.below H1.out.2) (by omega)).mono ?_
      rw [H.out.2.2.2.2.2.2]
      rintro e w2 ⟨A2, c2, rfl, hB2, hc2, hm2, hb2, hf2⟩
      have hb02 : Below w.heap.size w w2 := H1.out.2.trans (hb2.mono H1.out.2.size)
      have hD2 : DiskAt w2 p d F := H.out.1.keep hb02.size (fun k x => hb02.block k (H.out.1.bound k x))
      have hW := write_any p d F n A2 _ c2 _ w2 hD2 H.out.2.1 hB2 (fun a e x => by have := hf2 a e; have := H.out.1.bound _ x; have := H1.out.2.size; omega) H.out.2.2.2.1
      have HW := Lib.hid (And.intro hW (And.intro hb02 (H.out.1.bound)))
      clear hB2 hc2 hm2 hb2 hf2 hb02 hD2 hW
      generalize hwl : (Stamp.wrapB mk bs).length = L at *
      go_wp2_with fail
      refine (HW.out.1).mono ?_
      rintro e w3 ⟨rfl, F', h1, h2, h3⟩
      have hR3 : DiskTo w F p (Dk.write d n (Stamp.wrapB mk bs)).2 w3 := by
        refine ⟨F', h1, (Fr.of_below HW.out.2.1 F).trans h2 (fun _ _ x => x), fun k x => ?_⟩
        rcases h3 k x with x | x
        · exact .inl x
        · exact .inr (by have := HW.out.2.1.size; omega)
      have H3 := Lib.hid hR3
      clear hR3 h1 h2 h3
      generalize hq : Dk.write d n (Stamp.wrapB mk bs) = q at *
      obtain ⟨q1, q2⟩ := q
      clear hq
      go_wp2
      go_ret
      exact ⟨rfl, H3.out⟩
    · have hR : Dk.put2 d n bs = ((Dk.read d n).2, d) := by unfold Dk.put2; rw [if_neg (by omega), if_pos hr]
      rw [hR]
      have H := Lib.hid (And.intro hD (And.intro hok (And.intro hrr hr)))
      clear hR hD hok hbs hrr
      go_enter Try.func72, Try.ntmps72
      go_wp2_with fail
      refine (read_any p d F n w H.out.1 H.out.2.1).mono ?_
      rintro e w1 ⟨A1, c1, rfl, hB1, hc1, hm1, hb1, hf1⟩
      have hD1 : DiskTo w F p d w1 := ⟨F, H.out.1.keep hb1.size (fun k x => hb1.block k (H.out.1.bound k x)), Fr.of_below hb1 F, fun _ x => .inl x⟩
      have H1 := Lib.hid hD1
      clear hB1 hc1 hm1 hb1 hf1 hD1
      generalize hq : Dk.read d n = q at *
      obtain ⟨q1, q2⟩ := q
      clear hq
      have hne : ((q2 : Int) != 0) = true := by rw [bne_iff_ne]; have := H.out.2.2.2; simp at this; omega
      go_wp2
      go_ret
      exact ⟨rfl, H1.out⟩
theorem put_nil (n : Int) (w : World) (A : Option Addr) (m cap : Nat) (hm : m ≤ 254) : Calls Try.prog 72 #[.pointer none, .int .i64 n, .slice A m cap] w fun e w' => e = .returned (.int .i64 2) ∧ Below w.heap.size w w' := by
  have hd4 : decide (254 < (m : Int)) = false := by simp; omega
  go_enter Try.func72, Try.ntmps72
  go_wp2_with fail
  refine (read_nil n w).mono ?_
  rintro e w1 ⟨A1, c1, rfl, hB1, hc1, hm1, hb1, hf1⟩
  have H1 := Lib.hid hb1
  clear hB1 hc1 hm1 hb1 hf1
  go_wp2
  go_ret
  exact ⟨rfl, H1.out⟩
set_option maxRecDepth 100000 in
set_option maxHeartbeats 2000000 in
theorem get_any (p : Nat) (d : Dk.D) (F : Nat → Prop) (n : Int) (w : World) (hD : DiskAt w p d F) (hok : Dk.Ok d) :
    Calls Try.prog 65 #[.pointer (some ⟨p, 0, none⟩), .int .i64 n] w (BytesE w (Dk.get2 d n)) := by
  rcases Dk.read_cases d n with ⟨hr, hrr⟩ | ⟨hr, hrr⟩
  · have hR : Dk.get2 d n = Stamp.openR (Dk.cur d n) := by unfold Dk.get2; rw [if_neg (by simpa using hr)]
    rw [hR]
    have hcl := Dk.cur_length hok n
    have H := Lib.hid (And.intro hD (And.intro hok hrr))
    have HL := Lib.hid hcl
    clear hR hD hok hr hrr hcl
    go_enter Try.func65, Try.ntmps65
    go_wp2_with fail
    refine (read_any p d F n w H.out.1 H.out.2.1).mono ?_
    rw [H.out.2.2]
    rintro e w1 ⟨A1, c1, rfl, hB1, hc1, hm1, hb1, hf1⟩
    rw [HL.out] at hB1 hc1
    rw [show (Dk.cur d n, 0).1.length = 256 from HL.out]
    have H1 := Lib.hid (And.intro hB1 hb1)
    clear hB1 hb1 hf1
    go_wp2_with fail
    refine (open_any A1 256 c1 (Dk.cur d n) w1 H1.out.1 (by omega) hc1 hm1).mono ?_
    rintro e w2 ⟨A2, c2, rfl, hB2, hc2, hm2, hb2⟩
    have H2 := Lib.hid (And.intro hB2 (And.intro hc2 (And.intro hm2 (H1.out.2.trans (hb2.mono H1.out.2.size)))))
    clear hB2 hc2 hm2 hb2
    generalize Stamp.openR (Dk.cur d n) = q at *
    obtain ⟨q1, q2⟩ := q
    go_wp2
    go_ret2
    exact ⟨A2, c2, rfl, H2.out⟩
  · have hR : Dk.get2 d n = ([], (Dk.read d n).2) := by unfold Dk.get2; rw [if_pos hr]
    rw [hR]
    have H := Lib.hid (And.intro hD (And.intro hok (And.intro hrr hr)))
    clear hR hD hok hrr
    go_enter Try.func65, Try.ntmps65
    go_wp2_with fail
    refine (read_any p d F n w H.out.1 H.out.2.1).mono ?_
    rintro e w1 ⟨A1, c1, rfl, hB1, hc1, hm1, hb1, hf1⟩
    have H1 := Lib.hid hb1
    clear hB1 hc1 hm1 hb1 hf1
    generalize hq : Dk.read d n = q at *
    obtain ⟨q1, q2⟩ := q
    clear hq
    have hne : ((q2 : Int) != 0) = true := by rw [bne_iff_ne]; have := H.out.2.2.2; simp at this; omega
    go_wp2
    go_ret2
    exact ⟨none, 0, rfl, BS.empty _ _, by simp, by simp, H1.out⟩
end Go.Proofs.Ytfcmlfcpgboigaa
