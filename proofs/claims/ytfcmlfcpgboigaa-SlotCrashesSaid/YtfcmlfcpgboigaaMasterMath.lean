/- Records, there and back; what is loaded of disks. -/
import Derived.Test.YtfcmlfcpgboigaaMasterLoad
namespace Go.Proofs.Ytfcmlfcpgboigaa
open Go.RowKit Mem
set_option linter.unusedVariables false
set_option linter.unusedSimpArgs false

namespace Ms
theorem one_num (x : Int) (h0 : 0 ≤ x) (h1 : x ≤ 1099511627776) (rest : List UInt8) : one ⟨Sl.numB x ++ rest, 0⟩ = x ∧ next ⟨Sl.numB x ++ rest, 0⟩ = ⟨rest, 0⟩ := by
  obtain ⟨n, rfl⟩ := Int.eq_ofNat_of_zero_le h0
  have hn : Sl.number (Sl.numB (n : Int) ++ rest) 1099511627776 = (n, (Sl.numB (n : Int)).length, 0) := by
    rw [Sl.numB_nat']
    exact Sl.number_num n 1099511627776 rest h1 (by omega)
  unfold one next Sl.out Sl.try_
  simp only [hn]
  simp
theorem reads_five (r : Sl.R) : reads r 5 = ([one r, one (next r), one (next (next r)), one (next (next (next r))), one (next (next (next (next r))))], next (next (next (next (next r))))) := rfl
theorem read_body (m : M) (hm : ∀ x ∈ m.vals, 0 ≤ x ∧ x ≤ 1099511627776) (rest : List UInt8) : read (body m ++ rest) = (m, true) := by
  have e : body m ++ rest = Sl.numB m.gen ++ (Sl.numB m.inc ++ (Sl.numB m.first ++ (Sl.numB m.lsn ++ (Sl.numB m.check ++ rest)))) := by
    simp [body, M.vals]
  have h1 := fun r => one_num m.gen (hm m.gen (by simp [M.vals])).1 (hm m.gen (by simp [M.vals])).2 r
  have h2 := fun r => one_num m.inc (hm m.inc (by simp [M.vals])).1 (hm m.inc (by simp [M.vals])).2 r
  have h3 := fun r => one_num m.first (hm m.first (by simp [M.vals])).1 (hm m.first (by simp [M.vals])).2 r
  have h4 := fun r => one_num m.lsn (hm m.lsn (by simp [M.vals])).1 (hm m.lsn (by simp [M.vals])).2 r
  have h5 := fun r => one_num m.check (hm m.check (by simp [M.vals])).1 (hm m.check (by simp [M.vals])).2 r
  unfold read
  rw [e, reads_five, (h1 _).2, (h2 _).2, (h3 _).2, (h4 _).2, (h5 _).2, (h1 _).1, (h2 _).1, (h3 _).1, (h4 _).1, (h5 _).1]
  rfl
theorem body_le (m : M) : (body m).length ≤ 55 := by
  have := bodyTo_le m 5 (Nat.le_refl _)
  rw [bodyTo_all] at this
  exact this
theorem look_torn (n : Int) (best : M) : look ([], 50) n best = (0, best) := rfl
theorem look_err (e : Nat) (n : Int) (best : M) (h0 : e ≠ 0) (h1 : e ≠ 50) : look ([], e) n best = (e, best) := by unfold look; rw [if_neg h1, if_neg h0]
theorem load_err0 (g : Int → List UInt8 × Nat) (e : Nat) (h0 : e ≠ 0) (h1 : e ≠ 50) (hg : g 0 = ([], e)) : load g = (zero, e) := by
  unfold load
  rw [hg, look_err e 0 zero h0 h1, if_pos h0]
theorem load_err1 (g : Int → List UInt8 × Nat) (e : Nat) (h0 : e ≠ 0) (h1 : e ≠ 50) (hg0 : g 0 = ([], 50)) (hg : g 1 = ([], e)) : load g = (zero, e) := by
  unfold load
  rw [hg0, look_torn, if_neg (by simp), hg, look_err e 1 _ h0 h1, if_pos h0]
theorem load_none (g : Int → List UInt8 × Nat) (h0 : g 0 = ([], 50)) (h1 : g 1 = ([], 50)) : load g = (zero, 60) := by
  unfold load
  rw [h0, h1, look_torn, look_torn]
  rfl
theorem take_rec (m : M) (hm : may m = true) (rest : List UInt8) (n : Int) (best : M) : take (body m ++ rest) n best = if best.gen < m.gen ∧ m.gen % 2 = n then m else best := by
  unfold take
  rw [read_body m (may_vals hm).1]
  simp
end Ms
namespace Dk
open Stamp
theorem nextB_zeros : nextB zeros = 1 := by decide +kernel
theorem openR_zeros : openR zeros = ([], 50) := by decide +kernel
theorem openR_wrap (m : UInt8) (p : List UInt8) (h : p.length ≤ 254) (h1 : 1 ≤ m.toNat) (h3 : m.toNat ≤ 3) : openR (wrapB m p) = (p ++ List.replicate (254 - p.length) 0, 0) := by
  unfold openR
  rw [if_neg (by rw [wrapB_length m p h]; simp), if_pos (openOk_wrapB m p h h1 h3), openB_wrapB m p h]
theorem get_new (z n : Int) (h0 : 0 ≤ n) (h1 : n < z) : get2 (new z) n = ([], 50) := by
  have hr : read (new z) n = (zeros, 0) := by
    have ha : at_ (new z) n = 0 := by unfold at_; rw [if_neg (by simp only [new]; omega)]
    unfold read
    rw [ha, if_neg (by simp)]
    rfl
  unfold get2
  rw [hr, if_neg (by simp)]
  exact openR_zeros
theorem get_out (d : D) (n : Int) (h : n < 0 ∨ d.size ≤ n) : get2 d n = ([], 1) := by
  have hr : read d n = ([], 1) := by unfold read at_; rw [if_pos h, if_pos (by simp)]
  unfold get2
  rw [hr, if_pos (by simp)]
theorem get_down (d : D) (n : Int) (h0 : 0 ≤ n) (h1 : n < d.size) (h : d.down = true) : get2 d n = ([], 40) := by
  have ha : at_ d n = 0 := by unfold at_; rw [if_neg (by omega)]
  have hr : read d n = ([], 40) := by unfold read; rw [ha, if_neg (by simp), h]; rfl
  unfold get2
  rw [hr, if_pos (by simp)]
theorem get_len {d : D} (h : Ok d) (n : Int) : (get2 d n).1.length ≤ 1000 := by
  unfold get2
  split
  · simp
  · unfold openR
    split
    · simp
    · split
      · rw [openB_length _ (cur_length h n)]; omega
      · simp
end Dk
theorem get_nil (n : Int) (w : World) : Calls Try.prog 65 #[.pointer none, .int .i64 n] w (BytesE w ([], 2)) := by
  go_enter Try.func65, Try.ntmps65
  go_wp2_with fail
  refine (read_nil n w).mono ?_
  rintro e w1 ⟨A1, c1, rfl, hB1, hc1, hm1, hb1, hf1⟩
  have H1 := Lib.hid hb1
  clear hB1 hc1 hm1 hb1 hf1
  go_wp2
  go_ret2
  exact ⟨none, 0, rfl, BS.empty _ _, by simp, by simp, H1.out⟩
end Go.Proofs.Ytfcmlfcpgboigaa
