/- Records on a disk of the call's own: saved, loaded; the law's awake of layer 6. -/
import Derived.Test.YtfcmlfcpgboigaaRef06
import Derived.Test.YtfcmlfcpgboigaaOwnDisk
import Derived.Test.YtfcmlfcpgboigaaPutsZ
namespace Go.Proofs.Ytfcmlfcpgboigaa
open Go.RowKit Mem
set_option linter.unusedVariables false
set_option linter.unusedSimpArgs false

theorem own_save {w0 w : World} {p : Nat} {d : Dk.D} (h : OwnD w0 w p d) (m : Ms.M) (hok : Dk.Ok d) (hlen : d.pend.length ≤ 999999) (hsy : d.syncs ≤ 999999) :
    Calls Try.prog 32 #[.pointer (some ⟨p, 0, none⟩), mVal m] w fun e w' => e = .returned (.int .i64 ((Ms.save d m).1 : Nat)) ∧ OwnD w0 w' p (Ms.save d m).2 := by
  obtain ⟨h1, F, h2, h3⟩ := h
  refine (msave_any p d F m w h2 hok hlen hsy).mono ?_
  rintro e w' ⟨rfl, hT⟩
  exact ⟨rfl, OwnD.to h1 h3 hT⟩
theorem own_load {w0 w : World} {p : Nat} {d : Dk.D} (h : OwnD w0 w p d) (hok : Dk.Ok d) :
    Calls Try.prog 28 #[.pointer (some ⟨p, 0, none⟩)] w fun e w' => e = .returned (.tuple #[mVal (Ms.load (Dk.get2 d)).1, .int .i64 ((Ms.load (Dk.get2 d)).2 : Nat)]) ∧ Below w.heap.size w w' := by
  obtain ⟨h1, F, h2, h3⟩ := h
  exact mload_any (some ⟨p, 0, none⟩) (Dk.get2 d) w (fun n _ _ W hb => get_any p d F n W (h2.below_ hb) hok) (Dk.get_len hok)
theorem nil_load (w : World) : Calls Try.prog 28 #[.pointer none] w fun e w' => e = .returned (.tuple #[mVal Ms.zero, .int .i64 2]) ∧ Below w.heap.size w w' := by
  have h := mload_any none (fun _ => ([], 2)) w (fun n _ _ W hb => get_nil n W) (by simp)
  rw [Ms.load_err0 _ 2 (by simp) (by simp) rfl] at h
  exact h
namespace Ms
open Stamp
/-- a record that is saved on a disk that works is loaded -/
theorem gen_odd (m : M) : m.gen % 2 = 0 ∨ m.gen % 2 = 1 := by omega
theorem save_q {z : Int} {k : Nat} {d : Dk.D} (h : Dk.Q z k d) (hz : 2 ≤ z) (m : M) (hm : may m = true) : save d m = (0, Dk.kept d (m.gen % 2) (body m)) := by
  have hb := body_le m
  have ho := gen_odd m
  unfold save
  rw [if_neg (by rw [hm]; simp), Dk.put_q h (by omega) (by omega) (by omega), if_neg (by simp), Dk.sync_put h]
/-- what a sector says, as plain data: the record in it, of the right oddness -/
def secM (s : List UInt8) (n : Int) : M := match Dk.opn s with
  | some p => take p n zero
  | none => zero
theorem take_gen (p : List UInt8) (n : Int) : 0 ≤ (take p n zero).gen := by
  unfold take
  have := read_gen p
  split
  · exact this.1
  · exact Int.le_refl _
theorem take_best (p : List UInt8) (n : Int) (best : M) (hb : 0 ≤ best.gen) : take p n best = if best.gen < (take p n zero).gen then take p n zero else best := by
  unfold take
  by_cases h1 : (read p).2 = true ∧ zero.gen < (read p).1.gen ∧ (read p).1.gen % 2 = n
  · rw [if_pos h1]
    by_cases h2 : best.gen < (read p).1.gen
    · rw [if_pos ⟨h1.1, h2, h1.2.2⟩, if_pos h2]
    · rw [if_neg (fun h => h2 h.2.1), if_neg h2]
  · rw [if_neg h1, if_neg (fun h => h1 ⟨h.1, by show (0 : Int) < _; omega, h.2.2⟩), if_neg (by show ¬ best.gen < (0 : Int); omega)]
theorem load_q {z : Int} {k : Nat} {d : Dk.D} (h : Dk.Q z k d) (hz : 2 ≤ z) : load (Dk.get2 d) =
    if (secM (Dk.cur d 0) 0).gen < (secM (Dk.cur d 1) 1).gen then (secM (Dk.cur d 1) 1, 0) else if (secM (Dk.cur d 0) 0).gen = 0 then (zero, 60) else (secM (Dk.cur d 0) 0, 0) := by
  have l0 : look (Dk.get2 d 0) 0 zero = (0, secM (Dk.cur d 0) 0) := by
    rw [Dk.get_q h (by omega) (by omega)]
    unfold secM
    cases Dk.opn (Dk.cur d 0) <;> rfl
  have hg0 : 0 ≤ (secM (Dk.cur d 0) 0).gen := by
    unfold secM
    cases Dk.opn (Dk.cur d 0)
    · exact Int.le_refl _
    · exact take_gen _ _
  have l1 : ∀ b : M, 0 ≤ b.gen → look (Dk.get2 d 1) 1 b = (0, if b.gen < (secM (Dk.cur d 1) 1).gen then secM (Dk.cur d 1) 1 else b) := by
    intro b hb
    rw [Dk.get_q h (by omega) (by omega)]
    unfold secM
    cases Dk.opn (Dk.cur d 1) with
    | none =>
      show (0, b) = _
      rw [if_neg (by show ¬ b.gen < (0 : Int); omega)]
    | some p =>
      show (0, take p 1 b) = _
      rw [take_best p 1 b hb]
  unfold load
  rw [l0, if_neg (by simp), l1 _ hg0, if_neg (by simp)]
  simp only
  by_cases hlt : (secM (Dk.cur d 0) 0).gen < (secM (Dk.cur d 1) 1).gen
  · rw [if_pos hlt, if_neg (by omega), if_pos hlt]
  · rw [if_neg hlt, if_neg hlt]
theorem secM_sec (d : Dk.D) (m : M) (hm : may m = true) : secM (Dk.secOf d (m.gen % 2) (body m)) (m.gen % 2) = m := by
  have hb := body_le m
  unfold secM
  rw [Dk.opn_sec (by omega)]
  show take (Dk.wantOf (body m)) _ _ = _
  unfold Dk.wantOf
  rw [take_rec m hm, if_pos ⟨by have := (may_gen hm).1; exact this, rfl⟩]
theorem secM_zeros (n : Int) : secM Dk.zeros n = zero := by
  have : Dk.opn Dk.zeros = none := by decide +kernel
  unfold secM
  rw [this]
theorem secM_gen (s : List UInt8) (n : Int) : 0 ≤ (secM s n).gen := by
  unfold secM
  cases Dk.opn s
  · exact Int.le_refl _
  · exact take_gen _ _
theorem cur_new (z n : Int) : Dk.cur (Dk.new z) n = Dk.zeros := rfl
/-- a record that was saved on a new disk -/
theorem load_saved (m : M) (hm : may m = true) : load (Dk.get2 (save (Dk.new 2) m).2) = (m, 0) := by
  have hq := Dk.q_new 2 (by omega)
  have hb := body_le m
  have hg := may_gen hm
  rw [save_q hq (by omega) m hm]
  have hk := Dk.kept_q hq (N := m.gen % 2) (by omega) (by omega) (p := body m) (by omega)
  rw [load_q hk (by omega)]
  rcases gen_odd m with ho | ho
  · have c0 : secM (Dk.cur (Dk.kept (Dk.new 2) (m.gen % 2) (body m)) 0) 0 = m := by
      rw [Dk.kept_cur hq, if_pos ho.symm]
      have := secM_sec (Dk.new 2) m hm
      rw [ho] at this ⊢
      exact this
    have c1 : secM (Dk.cur (Dk.kept (Dk.new 2) (m.gen % 2) (body m)) 1) 1 = zero := by
      rw [Dk.kept_cur hq, if_neg (by omega), cur_new, secM_zeros]
    rw [c0, c1, if_neg (by show ¬ m.gen < (0 : Int); omega), if_neg (by omega)]
  · have c0 : secM (Dk.cur (Dk.kept (Dk.new 2) (m.gen % 2) (body m)) 0) 0 = zero := by
      rw [Dk.kept_cur hq, if_neg (by omega), cur_new, secM_zeros]
    have c1 : secM (Dk.cur (Dk.kept (Dk.new 2) (m.gen % 2) (body m)) 1) 1 = m := by
      rw [Dk.kept_cur hq, if_pos ho.symm]
      have := secM_sec (Dk.new 2) m hm
      rw [ho] at this ⊢
      exact this
    rw [c0, c1, if_pos (by show (0 : Int) < m.gen; omega)]
end Ms
set_option maxRecDepth 100000 in
set_option maxHeartbeats 4000000 in
theorem awake06_any (w : World) : Calls Try.prog 25 #[] w fun e w' => e = .returned (.bool true) ∧ Below w.heap.size w w' := by
  have hm : Ms.may ⟨1, 0, 0, 7, 0⟩ = true := by decide
  have hs : Ms.save (Dk.new 2) ⟨1, 0, 0, 7, 0⟩ = (0, Dk.kept (Dk.new 2) 1 (Ms.body ⟨1, 0, 0, 7, 0⟩)) := Ms.save_q (Dk.q_new 2 (by omega)) (by omega) _ hm
  have hl := Ms.load_saved ⟨1, 0, 0, 7, 0⟩ hm
  have hk : Dk.Ok (Ms.save (Dk.new 2) ⟨1, 0, 0, 7, 0⟩).2 := by
    rw [hs]
    exact (Dk.kept_q (Dk.q_new 2 (by omega)) (N := 1) (by omega) (by omega) (p := Ms.body ⟨1, 0, 0, 7, 0⟩) (by have := Ms.body_le ⟨1, 0, 0, 7, 0⟩; omega)).ok
  have h1 : (Ms.save (Dk.new 2) ⟨1, 0, 0, 7, 0⟩).1 = 0 := by rw [hs]
  generalize hd : (Ms.save (Dk.new 2) ⟨1, 0, 0, 7, 0⟩).2 = d at *
  have H := Lib.hid (And.intro hl (And.intro hk (And.intro h1 hd)))
  clear hl hk h1 hd hs hm
  go_enter Try.func25, Try.ntmps25
  go_wp2_with fail
  refine (own_new 2 (by omega) w w (Below.refl _ _)).mono ?_
  rintro e w1 ⟨p, rfl, ho⟩
  have H1 := Lib.hid ho
  clear ho
  go_wp2_with fail
  refine (own_save H1.out ⟨1, 0, 0, 7, 0⟩ (Dk.new_ok 2 (by omega)) (by simp [Dk.new]) (by simp [Dk.new])).mono ?_
  rw [H.out.2.2.1, H.out.2.2.2]
  rintro e w2 ⟨rfl, ho⟩
  have H2 := Lib.hid ho
  clear ho
  go_wp2_with fail
  refine (own_load H2.out H.out.2.1).mono ?_
  rw [H.out.1]
  unfold mVal mCells
  rintro e w3 ⟨rfl, hb3⟩
  have H3 := Lib.hid (H2.out.grow hb3).1
  clear hb3
  go_wp2
  go_ret
  exact ⟨rfl, H3.out.alloc H3.out.size _⟩
end Go.Proofs.Ytfcmlfcpgboigaa
