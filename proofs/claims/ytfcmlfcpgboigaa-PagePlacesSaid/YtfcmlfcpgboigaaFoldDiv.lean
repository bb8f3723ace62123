/- What math/bits' Div64 and Rem64 do: the remainder of two words by one. -/
import Derived.Test.YtfcmlfcpgboigaaFoldDivMath
namespace Go.Proofs.Ytfcmlfcpgboigaa
open Go.RowKit
set_option linter.unusedVariables false
set_option linter.unusedSimpArgs false

theorem est_cases {y1 y0 u u1 q r : Nat} (h : Fd.Est y1 y0 u u1 q r) (h0 : y0 < 4294967296) (h1 : 2147483648 ≤ y1) (hu : u < y1 * 4294967296 + y0) (hu1 : u1 < 4294967296) :
    (q < 4294967296 ∧ q * y0 ≤ 4294967296 * r + u1 ∧ q = (u * 4294967296 + u1) / (y1 * 4294967296 + y0)) ∨
    ((4294967296 ≤ q ∨ (q < 4294967296 ∧ 4294967296 * r + u1 < q * y0)) ∧ 0 < q ∧ ((4294967296 ≤ r + y1 ∧ q - 1 = (u * 4294967296 + u1) / (y1 * 4294967296 + y0)) ∨ (r + y1 < 4294967296 ∧ Fd.Est y1 y0 u u1 (q - 1) (r + y1)))) := by
  have hle := h.le
  have hcases : ∀ hc : 4294967296 ≤ q ∨ 4294967296 * r + u1 < q * y0, 0 < q ∧ ((4294967296 ≤ r + y1 ∧ q - 1 = (u * 4294967296 + u1) / (y1 * 4294967296 + y0)) ∨ (r + y1 < 4294967296 ∧ Fd.Est y1 y0 u u1 (q - 1) (r + y1))) := by
    intro hc
    obtain ⟨m1, m2, m3⟩ := h.more hu hu1 hc
    refine ⟨m1, ?_⟩
    rcases Nat.lt_or_ge (r + y1) 4294967296 with hl | hl
    · exact .inr ⟨hl, m3, m2, by omega, hl⟩
    · exact .inl ⟨hl, Fd.Est.last h0 (by omega) m3 m2 (by omega) hl⟩
  by_cases hq : 4294967296 ≤ q
  · exact .inr ⟨.inl hq, hcases (.inl hq)⟩
  · by_cases hc : 4294967296 * r + u1 < q * y0
    · exact .inr ⟨.inr ⟨by omega, hc⟩, hcases (.inr hc)⟩
    · exact .inl ⟨by omega, by omega, h.done (by omega) (by omega)⟩
/-- the test of a round, as it is reckoned -/
theorem round_test (q y0 r u1 : Nat) (hq : q < 4294967296) (h0 : y0 < 4294967296) (hr : r < 4294967296) (hu1 : u1 < 4294967296) :
    decide (IntKind.u64.wrap (IntKind.u64.wrap (4294967296 * (r : Int)) + (u1 : Int)) < IntKind.u64.wrap ((q : Int) * (y0 : Int))) = decide (4294967296 * r + u1 < q * y0) := by
  have hm : q * y0 ≤ 4294967295 * 4294967295 := Nat.mul_le_mul (by omega) (by omega)
  rw [mulN, wrapN _ (by omega)]
  simp only [IntKind.wrap_u64]
  congr 1
  apply propext
  omega
set_option maxHeartbeats 8000000 in
set_option maxRecDepth 100000 in
theorem div64_any (hi lo y : Nat) (w : World) (h0 : 0 < hi) (h1 : hi < y) (h2 : y ≤ 9223372036854775807) (h3 : lo < 18446744073709551616) :
    Calls Try.prog 120 #[.int .u64 hi, .int .u64 lo, .int .u64 y] w fun e w' => ∃ q : Int, e = .returned (.tuple #[.int .u64 q, .int .u64 (((hi * 18446744073709551616 + lo) % y : Nat) : Int)]) ∧ w = w' := by
  obtain ⟨s, hs⟩ : ∃ s, 64 - Lib.bitLen y = s := ⟨_, rfl⟩
  obtain ⟨hs1, hs2, hsb, _, _⟩ := lay_y y s h2 (by omega) hs
  obtain ⟨Y, y1, y0, u, t, d1, d0, q1, r1, Q1, v, q0, r0, Q0, R, hl⟩ := lay_any hi lo y s h1 h2 h3 hs
  have hlead := lead64_any y w (by omega) (by omega)
  rw [Int.toNat_natCast, show (64 : Int) - (Lib.bitLen y : Int) = (s : Int) by omega] at hlead
  rw [← hl.fR]
  have k1 := hl.fy
  have k2 := hl.fy1
  have k3 := hl.fy0
  have k4 := hl.fu
  have k5 := hl.ft
  have k6 := hl.fd1
  have k7 := hl.fd0
  have k8 := hl.fa.fq
  have k9 := hl.fa.fr
  have k10 := hl.fb.fq
  have k11 := hl.fb.fr
  have k12 := hl.fa.fv
  have k13 := hl.fb.fv
  have hz1 : ((y1 : Int) == 0) = false := by have := hl.fy1l; rw [beq_eq_false_iff_ne]; omega
  have hz1' : (0 : Int) < (y1 : Int) := by have := hl.fy1l; omega
  have hres : (((R / 2 ^ s : Nat) : Int)) = (R : Int) / 2 ^ s := by simp
  rw [hres]
  have g1 : ((y : Int) == 0) = false := by rw [beq_eq_false_iff_ne]; omega
  have g2 : decide ((y : Int) ≤ (hi : Int)) = false := by simp; omega
  have g3 : ((hi : Int) == 0) = false := by rw [beq_eq_false_iff_ne]; omega
  have HL := Lib.hid hl
  have HD := Lib.hid hlead
  clear hl hlead hs hsb h0 h1 h2 h3 hres
  generalize hyi : (y : Int) = yI at *
  generalize hhii : (hi : Int) = hiI at *
  generalize hloi : (lo : Int) = loI at *
  generalize hYi : (Y : Int) = YI at *
  generalize hui : (u : Int) = uI at *
  generalize hti : (t : Int) = tI at *
  generalize hy1i : (y1 : Int) = y1I at *
  generalize hy0i : (y0 : Int) = y0I at *
  generalize hd1i : (d1 : Int) = d1I at *
  generalize hd0i : (d0 : Int) = d0I at *
  generalize hvi : (v : Int) = vI at *
  generalize hRi : (R : Int) = RI at *
  have HZ := Lib.hid hyi
  have HZ2 := Lib.hid hhii
  have HZ3 := Lib.hid hloi
  go_enter Try.func120, Try.ntmps120
  go_wp2_with fail
  refine HD.out.mono ?_
  rintro e w1 ⟨rfl, rfl⟩
  go_wp2_with fail
  go_loop [15, 16] (fun a b => ∃ (qI rI : Int) (q r : Nat), a = .int .u64 qI ∧ b = .int .u64 rI ∧ qI = (q : Int) ∧ rI = (r : Int) ∧ Fd.Est y1 y0 u d1 q r) (fun a _ => (intOf a).toNat)
  case atStart => exact ⟨_, _, q1, r1, rfl, rfl, rfl, rfl, HL.out.fa.fest⟩
  case round =>
    obtain ⟨qI, rI, q, r, rfl, rfl, hq, hr, hest⟩ := hrel
    have hcs := est_cases hest HL.out.fy0l HL.out.fy1l HL.out.fa.fu HL.out.fa.fd32
    have hle := hest.le
    have hr32 := hest.r32
    have htest : q < 4294967296 → decide (IntKind.u64.wrap (IntKind.u64.wrap (4294967296 * rI) + d1I) < IntKind.u64.wrap (qI * y0I)) = decide (4294967296 * r + d1 < q * y0) := fun h => by
      rw [hq, hr, ← hd1i, ← hy0i]
      exact round_test q y0 r d1 h HL.out.fy0l hr32 HL.out.fa.fd32
    have hsub : 0 < q → IntKind.u64.wrap (qI - 1) = qI - 1 := fun h => by rw [hq, IntKind.wrap_u64]; omega
    have hadd : IntKind.u64.wrap (rI + y1I) = rI + y1I := by
      have := HL.out.fy1m
      rw [hr, ← hy1i, IntKind.wrap_u64]; omega
    have hm : (intOf (.int .u64 qI)).toNat = q := by rw [hq]; simp [intOf]
    have hcs' : (∃ Qq : Nat, qI = (Qq : Int) ∧ decide (4294967296 ≤ qI) = false ∧ decide (IntKind.u64.wrap (IntKind.u64.wrap (4294967296 * rI) + d1I) < IntKind.u64.wrap (qI * y0I)) = false ∧ Qq = Q1) ∨
        ((decide (4294967296 ≤ qI) = true ∨ decide (4294967296 ≤ qI) = false ∧ decide (IntKind.u64.wrap (IntKind.u64.wrap (4294967296 * rI) + d1I) < IntKind.u64.wrap (qI * y0I)) = true) ∧ IntKind.u64.wrap (qI - 1) = qI - 1 ∧ 0 < q ∧
          ((decide (4294967296 ≤ rI + y1I) = true ∧ qI - 1 = (Q1 : Int)) ∨ (decide (4294967296 ≤ rI + y1I) = false ∧ Fd.Est y1 y0 u d1 (q - 1) (r + y1)))) := by
      rcases hcs with ⟨a1, a2, a3⟩ | ⟨a1, a2, a3⟩
      · refine .inl ⟨q, hq, by rw [hq]; simp; omega, by rw [htest a1]; simp; omega, by rw [a3, HL.out.fa.fQ]⟩
      · refine .inr ⟨?_, hsub a2, a2, ?_⟩
        · rcases a1 with b1 | ⟨b1, b2⟩
          · exact .inl (by rw [hq]; simp; omega)
          · exact .inr ⟨by rw [hq]; simp; omega, by rw [htest b1]; simpa using b2⟩
        · rcases a3 with ⟨b1, b2⟩ | ⟨b1, b2⟩
          · exact .inl ⟨by rw [hr, ← hy1i]; simp; omega, by rw [hq, HL.out.fa.fQ, ← b2]; omega⟩
          · exact .inr ⟨by rw [hr, ← hy1i]; simp; omega, b2⟩
    have HM := Lib.hid (And.intro hq (And.intro hr hm))
    clear hcs htest hsub hest hle hr32 hq hr hm
    rcases hcs' with ⟨Qq, e1, e2, e3, e4⟩ | ⟨hc, hsub, hpos, hx⟩
    · have HQ : qI = (Q1 : Int) := by rw [e1, e4]
      subst HQ
      clear e1 e4
      clear HM hadd
      go_wp2_with fail
      go_loop [18, 16] (fun a b => ∃ (qI rI : Int) (q r : Nat), a = .int .u64 qI ∧ b = .int .u64 rI ∧ qI = (q : Int) ∧ rI = (r : Int) ∧ Fd.Est y1 y0 v d0 q r) (fun a _ => (intOf a).toNat)
      case atStart => exact ⟨_, _, q0, r0, rfl, rfl, rfl, rfl, HL.out.fb.fest⟩
      case round =>
        obtain ⟨qI, rI, q, r, rfl, rfl, hq, hr, hest⟩ := hrel
        have hcs := est_cases hest HL.out.fy0l HL.out.fy1l HL.out.fb.fu HL.out.fb.fd32
        have hle := hest.le
        have hr32 := hest.r32
        have htest : q < 4294967296 → decide (IntKind.u64.wrap (IntKind.u64.wrap (4294967296 * rI) + d0I) < IntKind.u64.wrap (qI * y0I)) = decide (4294967296 * r + d0 < q * y0) := fun h => by
          rw [hq, hr, ← hd0i, ← hy0i]
          exact round_test q y0 r d0 h HL.out.fy0l hr32 HL.out.fb.fd32
        have hsub : 0 < q → IntKind.u64.wrap (qI - 1) = qI - 1 := fun h => by rw [hq, IntKind.wrap_u64]; omega
        have hadd : IntKind.u64.wrap (rI + y1I) = rI + y1I := by
          have := HL.out.fy1m
          rw [hr, ← hy1i, IntKind.wrap_u64]; omega
        have hm : (intOf (.int .u64 qI)).toNat = q := by rw [hq]; simp [intOf]
        have hcs' : (∃ Qq : Nat, qI = (Qq : Int) ∧ decide (4294967296 ≤ qI) = false ∧ decide (IntKind.u64.wrap (IntKind.u64.wrap (4294967296 * rI) + d0I) < IntKind.u64.wrap (qI * y0I)) = false ∧ Qq = Q0) ∨
            ((decide (4294967296 ≤ qI) = true ∨ decide (4294967296 ≤ qI) = false ∧ decide (IntKind.u64.wrap (IntKind.u64.wrap (4294967296 * rI) + d0I) < IntKind.u64.wrap (qI * y0I)) = true) ∧ IntKind.u64.wrap (qI - 1) = qI - 1 ∧ 0 < q ∧
              ((decide (4294967296 ≤ rI + y1I) = true ∧ qI - 1 = (Q0 : Int)) ∨ (decide (4294967296 ≤ rI + y1I) = false ∧ Fd.Est y1 y0 v d0 (q - 1) (r + y1)))) := by
          rcases hcs with ⟨a1, a2, a3⟩ | ⟨a1, a2, a3⟩
          · refine .inl ⟨q, hq, by rw [hq]; simp; omega, by rw [htest a1]; simp; omega, by rw [a3, HL.out.fb.fQ]⟩
          · refine .inr ⟨?_, hsub a2, a2, ?_⟩
            · rcases a1 with b1 | ⟨b1, b2⟩
              · exact .inl (by rw [hq]; simp; omega)
              · exact .inr ⟨by rw [hq]; simp; omega, by rw [htest b1]; simpa using b2⟩
            · rcases a3 with ⟨b1, b2⟩ | ⟨b1, b2⟩
              · exact .inl ⟨by rw [hr, ← hy1i]; simp; omega, by rw [hq, HL.out.fb.fQ, ← b2]; omega⟩
              · exact .inr ⟨by rw [hr, ← hy1i]; simp; omega, b2⟩
        have HM := Lib.hid (And.intro hq (And.intro hr hm))
        clear hcs htest hsub hest hle hr32 hq hr hm
        rcases hcs' with ⟨Qq, e1, e2, e3, e4⟩ | ⟨hc, hsub, hpos, hx⟩
        · have HQ : qI = (Q0 : Int) := by rw [e1, e4]
          subst HQ
          clear e1 e4
          go_wp2
          go_ret2
          exact ⟨⟨_, rfl⟩, rfl⟩
        · have HC := Lib.hid hc
          rcases hx with ⟨e1, e2⟩ | ⟨e1, e2⟩
          · replace hsub := hsub.trans e2
            have HQ := Lib.hid e2
            clear e2
            rcases HC.out with c1 | ⟨c1, c2⟩
            all_goals
              clear hc
              go_wp2
              go_ret2
              exact ⟨⟨_, rfl⟩, rfl⟩
          · have HX := Lib.hid e2
            clear e2
            rcases HC.out with c1 | ⟨c1, c2⟩
            all_goals
              clear hc
              go_wp2
              go_round
              case rel => exact ⟨_, _, q - 1, r + y1, rfl, rfl, by rw [HM.out.1]; omega, by rw [HM.out.2.1, ← hy1i]; omega, HX.out⟩
              case measure => rw [HM.out.2.2]; rw [HM.out.1]; simp [intOf]; omega
    · have HC := Lib.hid hc
      rcases hx with ⟨e1, e2⟩ | ⟨e1, e2⟩
      · replace hsub := hsub.trans e2
        have HQ := Lib.hid e2
        clear e2
        rcases HC.out with c1 | ⟨c1, c2⟩
        all_goals
          clear hc
          go_wp2_with fail
          go_loop [18, 16] (fun a b => ∃ (qI rI : Int) (q r : Nat), a = .int .u64 qI ∧ b = .int .u64 rI ∧ qI = (q : Int) ∧ rI = (r : Int) ∧ Fd.Est y1 y0 v d0 q r) (fun a _ => (intOf a).toNat)
          case atStart => exact ⟨_, _, q0, r0, rfl, rfl, rfl, rfl, HL.out.fb.fest⟩
          case round =>
            obtain ⟨qI, rI, q, r, rfl, rfl, hq, hr, hest⟩ := hrel
            have hcs := est_cases hest HL.out.fy0l HL.out.fy1l HL.out.fb.fu HL.out.fb.fd32
            have hle := hest.le
            have hr32 := hest.r32
            have htest : q < 4294967296 → decide (IntKind.u64.wrap (IntKind.u64.wrap (4294967296 * rI) + d0I) < IntKind.u64.wrap (qI * y0I)) = decide (4294967296 * r + d0 < q * y0) := fun h => by
              rw [hq, hr, ← hd0i, ← hy0i]
              exact round_test q y0 r d0 h HL.out.fy0l hr32 HL.out.fb.fd32
            have hsub : 0 < q → IntKind.u64.wrap (qI - 1) = qI - 1 := fun h => by rw [hq, IntKind.wrap_u64]; omega
            have hadd : IntKind.u64.wrap (rI + y1I) = rI + y1I := by
              have := HL.out.fy1m
              rw [hr, ← hy1i, IntKind.wrap_u64]; omega
            have hm : (intOf (.int .u64 qI)).toNat = q := by rw [hq]; simp [intOf]
            have hcs' : (∃ Qq : Nat, qI = (Qq : Int) ∧ decide (4294967296 ≤ qI) = false ∧ decide (IntKind.u64.wrap (IntKind.u64.wrap (4294967296 * rI) + d0I) < IntKind.u64.wrap (qI * y0I)) = false ∧ Qq = Q0) ∨
                ((decide (4294967296 ≤ qI) = true ∨ decide (4294967296 ≤ qI) = false ∧ decide (IntKind.u64.wrap (IntKind.u64.wrap (4294967296 * rI) + d0I) < IntKind.u64.wrap (qI * y0I)) = true) ∧ IntKind.u64.wrap (qI - 1) = qI - 1 ∧ 0 < q ∧
                  ((decide (4294967296 ≤ rI + y1I) = true ∧ qI - 1 = (Q0 : Int)) ∨ (decide (4294967296 ≤ rI + y1I) = false ∧ Fd.Est y1 y0 v d0 (q - 1) (r + y1)))) := by
              rcases hcs with ⟨a1, a2, a3⟩ | ⟨a1, a2, a3⟩
              · refine .inl ⟨q, hq, by rw [hq]; simp; omega, by rw [htest a1]; simp; omega, by rw [a3, HL.out.fb.fQ]⟩
              · refine .inr ⟨?_, hsub a2, a2, ?_⟩
                · rcases a1 with b1 | ⟨b1, b2⟩
                  · exact .inl (by rw [hq]; simp; omega)
                  · exact .inr ⟨by rw [hq]; simp; omega, by rw [htest b1]; simpa using b2⟩
                · rcases a3 with ⟨b1, b2⟩ | ⟨b1, b2⟩
                  · exact .inl ⟨by rw [hr, ← hy1i]; simp; omega, by rw [hq, HL.out.fb.fQ, ← b2]; omega⟩
                  · exact .inr ⟨by rw [hr, ← hy1i]; simp; omega, b2⟩
            have HM := Lib.hid (And.intro hq (And.intro hr hm))
            clear hcs htest hsub hest hle hr32 hq hr hm
            rcases hcs' with ⟨Qq, e1, e2, e3, e4⟩ | ⟨hc, hsub, hpos, hx⟩
            · have HQ : qI = (Q0 : Int) := by rw [e1, e4]
              subst HQ
              clear e1 e4
              go_wp2
              go_ret2
              exact ⟨⟨_, rfl⟩, rfl⟩
            · have HC := Lib.hid hc
              rcases hx with ⟨e1, e2⟩ | ⟨e1, e2⟩
              · replace hsub := hsub.trans e2
                have HQ := Lib.hid e2
                clear e2
                rcases HC.out with c1 | ⟨c1, c2⟩
                all_goals
                  clear hc
                  go_wp2
                  go_ret2
                  exact ⟨⟨_, rfl⟩, rfl⟩
              · have HX := Lib.hid e2
                clear e2
                rcases HC.out with c1 | ⟨c1, c2⟩
                all_goals
                  clear hc
                  go_wp2
                  go_round
                  case rel => exact ⟨_, _, q - 1, r + y1, rfl, rfl, by rw [HM.out.1]; omega, by rw [HM.out.2.1, ← hy1i]; omega, HX.out⟩
                  case measure => rw [HM.out.2.2]; rw [HM.out.1]; simp [intOf]; omega
      · have HX := Lib.hid e2
        clear e2
        rcases HC.out with c1 | ⟨c1, c2⟩
        all_goals
          clear hc
          go_wp2
          go_round
          case rel => exact ⟨_, _, q - 1, r + y1, rfl, rfl, by rw [HM.out.1]; omega, by rw [HM.out.2.1, ← hy1i]; omega, HX.out⟩
          case measure => rw [HM.out.2.2]; rw [HM.out.1]; simp [intOf]; omega
end Go.Proofs.Ytfcmlfcpgboigaa
