/- What num.Fold and the document's Fold do. -/
import Derived.Test.YtfcmlfcpgboigaaFoldRem
import Derived.Test.YtfcmlfcpgboigaaNumWalks
namespace Go.Proofs.Ytfcmlfcpgboigaa
open Go.RowKit Mem
set_option linter.unusedVariables false
set_option linter.unusedSimpArgs false

theorem fold_step (x c n : Nat) (hx : x < n) (hn : n ≤ 9223372036854775807) (hc : c < 256) :
    x * 31 / 18446744073709551616 ≤ 16 ∧ x * 31 % 18446744073709551616 < 18446744073709551616 ∧ (x * 31 / 18446744073709551616 + (x * 31 % 18446744073709551616 + c) / 18446744073709551616) * 18446744073709551616 + (x * 31 % 18446744073709551616 + c) % 18446744073709551616 = x * 31 + c := by
  omega
set_option maxHeartbeats 2000000 in
set_option maxRecDepth 100000 in
theorem fold_any (A : Option Addr) (m cap : Nat) (bs : List UInt8) (n : Nat) (w : World) (hbs : BS w A m bs) (hm : m ≤ 140737488351232) (h1 : 1 ≤ n) (hn : n ≤ 9223372036854775807) :
    Calls Try.prog 77 #[.slice A m cap, .int .i64 n] w fun e w' => e = .returned (.int .i64 (Fd.fold n bs : Nat)) ∧ Below w.heap.size w w' := by
  have hg : decide ((n : Int) < 1) = false := by simp; omega
  have HL := Lib.hid hbs
  have hlen := hbs.1
  clear hbs
  go_enter Try.func77, Try.ntmps77
  go_wp2
  go_loopw [6, 8, 9, 10, 11, 18] (fun x _ _ _ _ i wr => ∃ (k : Nat), k ≤ m ∧ i = .int .i64 k ∧ x = .int .u64 (Fd.fold n (bs.take k) : Nat) ∧ Below w.heap.size w wr) (fun _ _ _ _ _ i _ => m - (intOf i).toNat)
  case atStart => exact ⟨0, by omega, rfl, rfl, Below.refl _ _⟩
  case round =>
    obtain ⟨k, hk, rfl, rfl, hb⟩ := hrel
    have hflt := Fd.fold_lt n (bs.take k) (by omega)
    by_cases hlt : k < m
    · have hsn := Fd.fold_snoc n bs k (by omega)
      obtain ⟨b, off, rfl, hc⟩ := (HL.out.below hb).at_ hlt
      have hcl := (bs.getD k 0).toNat_lt
      generalize bs.getD k 0 = c at *
      generalize Fd.fold n (bs.take k) = x at *
      obtain ⟨f1, f2, f3⟩ := fold_step x c.toNat n hflt hn (by omega)
      have hmul := mul64_any x 31 (by omega) (by omega) wr
      obtain ⟨p, hp⟩ : ∃ p, x * 31 / 18446744073709551616 = p := ⟨_, rfl⟩
      obtain ⟨q, hq⟩ : ∃ q, x * 31 % 18446744073709551616 = q := ⟨_, rfl⟩
      rw [hp, hq] at hmul f3
      rw [hp] at f1
      rw [hq] at f2
      have hrem := fun W => rem64_any (p + (q + c.toNat) / 18446744073709551616) ((q + c.toNat) % 18446744073709551616) n W (by omega) (by omega) hn (Nat.mod_lt _ (by omega))
      rw [f3, ← hsn] at hrem
      have e1 : ((q : Int) + (c.toNat : Int)) % 18446744073709551616 = (((q + c.toNat) % 18446744073709551616 : Nat) : Int) := by omega
      have e2 : IntKind.u64.wrap ((p : Int) + ((q : Int) + (c.toNat : Int)) / 18446744073709551616) = ((p + (q + c.toNat) / 18446744073709551616 : Nat) : Int) := by rw [IntKind.wrap_u64]; omega
      have ha := add64_run (q : Int) (c.toNat : Int) (by omega) (by omega)
      have e3 : IntKind.u64.wrap (c.toNat : Int) = (c.toNat : Int) := by rw [IntKind.wrap_u64]; omega
      obtain ⟨u, hu⟩ : ∃ u, p + (q + c.toNat) / 18446744073709551616 = u := ⟨_, rfl⟩
      obtain ⟨v, hv⟩ : ∃ v, (q + c.toNat) % 18446744073709551616 = v := ⟨_, rfl⟩
      rw [hu, hv] at hrem
      rw [hv] at e1
      rw [hu] at e2
      have H := Lib.hid (And.intro hmul (And.intro hrem hb))
      clear hmul hrem hb hsn hp hq hu hv f1 f2 f3 hflt
      generalize hX : Fd.fold n (bs.take (k + 1)) = X at *
      have HX := Lib.hid hX
      clear hX
      generalize (p : Int) = pI at *
      generalize (q : Int) = qI at *
      generalize (u : Int) = uI at *
      generalize (v : Int) = vI at *
      generalize (x : Int) = xI at *
      go_wp2_with fail
      refine H.out.1.mono ?_
      rintro e w1 ⟨rfl, rfl⟩
      go_wp2_with (first | simp only [ha] | fail)
      refine (H.out.2.1 _).mono ?_
      rintro e w2 ⟨rfl, hb2⟩
      have H2 := Lib.hid (H.out.2.2.trans (hb2.mono H.out.2.2.size))
      clear hb2
      go_wp2
      go_roundw
      case rel => exact ⟨k + 1, by omega, by go_num, by rw [HX.out], H2.out⟩
      case measure => simp [intOf]; omega
    · obtain rfl : k = m := by omega
      have HB := Lib.hid hb
      clear hb
      rw [List.take_of_length_le (by omega)] at *
      generalize hx : Fd.fold n bs = x at *
      have HX := Lib.hid hx
      clear hx
      go_wp2
      go_ret
      exact ⟨by rw [HX.out]; rfl, HB.out⟩
theorem fold_none (A : Option Addr) (m cap : Nat) (n : Int) (w : World) (h1 : n < 1) :
    Calls Try.prog 77 #[.slice A m cap, .int .i64 n] w fun e w' => e = .returned (.int .i64 0) ∧ w = w' := by
  have hg : decide (n < 1) = true := by simpa using h1
  go_enter Try.func77, Try.ntmps77
  go_wp2
  go_ret
  exact ⟨rfl, rfl⟩
set_option maxRecDepth 100000 in
theorem addmod_any (a b n : Nat) (w : World) (ha : a < n) (hb : b < n) (hn : n ≤ 9223372036854775807) :
    Calls Try.prog 108 #[.int .u64 a, .int .u64 b, .int .u64 n] w fun e w' => e = .returned (.int .u64 ((a + b) % n : Nat)) ∧ w = w' := by
  have e1 : IntKind.u64.wrap ((n : Int) - (b : Int)) = (n : Int) - (b : Int) := by rw [IntKind.wrap_u64]; omega
  by_cases h : n ≤ a + b
  · have hr : (((a + b) % n : Nat) : Int) = (a : Int) - ((n : Int) - (b : Int)) := by
      have : (a + b) % n = a + b - n := by rw [Nat.mod_eq_sub_mod h, Nat.mod_eq_of_lt (by omega)]
      rw [this]; omega
    rw [hr]
    have hg : decide ((n : Int) - (b : Int) ≤ (a : Int)) = true := by simp; omega
    have e2 : IntKind.u64.wrap ((a : Int) - ((n : Int) - (b : Int))) = (a : Int) - ((n : Int) - (b : Int)) := by rw [IntKind.wrap_u64]; omega
    clear hr ha hb hn h
    generalize (a : Int) = aI at *
    generalize (b : Int) = bI at *
    generalize (n : Int) = nI at *
    go_enter Try.func108, Try.ntmps108
    go_wp2
    go_ret
    exact ⟨rfl, rfl⟩
  · have hr : (((a + b) % n : Nat) : Int) = (a : Int) + (b : Int) := by rw [Nat.mod_eq_of_lt (by omega)]; omega
    rw [hr]
    have hg : decide ((n : Int) - (b : Int) ≤ (a : Int)) = false := by simp; omega
    have e2 : IntKind.u64.wrap ((a : Int) + (b : Int)) = (a : Int) + (b : Int) := by rw [IntKind.wrap_u64]; omega
    clear hr ha hb hn h
    generalize (a : Int) = aI at *
    generalize (b : Int) = bI at *
    generalize (n : Int) = nI at *
    go_enter Try.func108, Try.ntmps108
    go_wp2
    go_ret
    exact ⟨rfl, rfl⟩
set_option maxRecDepth 100000 in
theorem mulmod_any (a k n : Nat) (w : World) (ha : a < n) (hk : k ≤ 1000) (hn : n ≤ 9223372036854775807) :
    Calls Try.prog 107 #[.int .u64 a, .int .i64 k, .int .u64 n] w fun e w' => e = .returned (.int .u64 ((a * k) % n : Nat)) ∧ w = w' := by
  go_enter Try.func107, Try.ntmps107
  go_wp2
  go_loop [7, 8] (fun x i => ∃ (j : Nat), j ≤ k ∧ i = .int .i64 j ∧ x = .int .u64 ((a * j) % n : Nat)) (fun _ i => k - (intOf i).toNat)
  case atStart => exact ⟨0, by omega, rfl, by simp⟩
  case round =>
    obtain ⟨j, hj, rfl, rfl⟩ := hrel
    by_cases hlt : j < k
    · have had := addmod_any (a * j % n) a n w (Nat.mod_lt _ (by omega)) ha hn
      rw [Nat.mod_add_mod, show a * j + a = a * (j + 1) by rw [Nat.mul_add, Nat.mul_one]] at had
      generalize a * j % n = x at *
      generalize hy : a * (j + 1) % n = y at *
      have H := Lib.hid had
      have HY := Lib.hid hy
      clear had hy
      go_wp2_with fail
      refine H.out.mono ?_
      rintro e w1 ⟨rfl, rfl⟩
      go_wp2
      go_round
      case rel => exact ⟨j + 1, by omega, by go_num, by rw [HY.out]⟩
      case measure => simp [intOf]; omega
    · obtain rfl : j = k := by omega
      generalize hx : a * j % n = x at *
      have HX := Lib.hid hx
      clear hx
      go_wp2
      go_ret
      exact ⟨by rw [show (a : Int) * (j : Int) % (n : Int) = ((a * j % n : Nat) : Int) by simp, HX.out]; rfl, rfl⟩
set_option maxRecDepth 100000 in
set_option maxHeartbeats 1000000 in
theorem refFold_any (A : Option Addr) (m cap : Nat) (bs : List UInt8) (n : Nat) (w : World) (hbs : BS w A m bs) (hm : m ≤ 140737488351232) (h1 : 1 ≤ n) (hn : n ≤ 9223372036854775807) :
    Calls Try.prog 78 #[.slice A m cap, .int .i64 n] w fun e w' => e = .returned (.int .i64 (Fd.fold n bs : Nat)) ∧ w = w' := by
  have hg : decide ((n : Int) < 1) = false := by simp; omega
  have HL := Lib.hid hbs
  have hlen := hbs.1
  clear hbs
  go_enter Try.func78, Try.ntmps78
  go_wp2
  go_loop [5, 6] (fun x i => ∃ (k : Nat), k ≤ m ∧ i = .int .i64 k ∧ x = .int .u64 (Fd.fold n (bs.take k) : Nat)) (fun _ i => m - (intOf i).toNat)
  case atStart => exact ⟨0, by omega, rfl, rfl⟩
  case round =>
    obtain ⟨k, hk, rfl, rfl⟩ := hrel
    have hflt := Fd.fold_lt n (bs.take k) (by omega)
    by_cases hlt : k < m
    · have hsn := Fd.fold_snoc n bs k (by omega)
      obtain ⟨b, off, rfl, hc⟩ := HL.out.at_ hlt
      have hcl := (bs.getD k 0).toNat_lt
      generalize bs.getD k 0 = c at *
      generalize Fd.fold n (bs.take k) = x at *
      have hmm := mulmod_any x 31 n w hflt (by omega) hn
      have had := addmod_any (x * 31 % n) (c.toNat % n) n w (Nat.mod_lt _ (by omega)) (Nat.mod_lt _ (by omega)) hn
      rw [← Nat.add_mod, ← hsn] at had
      have e1 : (c.toNat : Int).tmod (n : Int) = ((c.toNat % n : Nat) : Int) := by rw [Int.tmod_eq_emod_of_nonneg (by omega)]; simp
      have hnp : (0 : Int) < (n : Int) := by omega
      have hz : ((n : Int) == 0) = false := by rw [beq_eq_false_iff_ne]; omega
      generalize hX : Fd.fold n (bs.take (k + 1)) = X at *
      generalize x * 31 % n = p at *
      generalize c.toNat % n = q at *
      have H := Lib.hid (And.intro hmm (And.intro had hX))
      clear hmm had hX hsn hflt
      generalize (q : Int) = qI at *
      go_wp2_with fail
      refine H.out.1.mono ?_
      rintro e w1 ⟨rfl, rfl⟩
      go_wp2_with fail
      refine H.out.2.1.mono ?_
      rintro e w1 ⟨rfl, rfl⟩
      go_wp2
      go_round
      case rel => exact ⟨k + 1, by omega, by go_num, by rw [H.out.2.2]⟩
      case measure => simp [intOf]; omega
    · obtain rfl : k = m := by omega
      rw [List.take_of_length_le (by omega)] at *
      generalize hx : Fd.fold n bs = x at *
      have HX := Lib.hid hx
      clear hx
      go_wp2
      go_ret
      exact ⟨by rw [HX.out]; rfl, rfl⟩
theorem refFold_none (A : Option Addr) (m cap : Nat) (n : Int) (w : World) (h1 : n < 1) :
    Calls Try.prog 78 #[.slice A m cap, .int .i64 n] w fun e w' => e = .returned (.int .i64 0) ∧ w = w' := by
  have hg : decide (n < 1) = true := by simpa using h1
  go_enter Try.func78, Try.ntmps78
  go_wp2
  go_ret
  exact ⟨rfl, rfl⟩
end Go.Proofs.Ytfcmlfcpgboigaa
