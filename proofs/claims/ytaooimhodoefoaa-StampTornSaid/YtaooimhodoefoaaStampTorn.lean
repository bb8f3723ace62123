/- StampTorn: whatever stood in a sector: of one that is wrapped with the stamp for it, and torn over it, nothing is opened but all of the new one, or all of the old one; no condition. -/
import Derived.Test.YtaooimhodoefoaaStampRefs
import Derived.Test.YtaooimhodoefoaaOwn05
import Derived.Test.YtaooimhodoefoaaLift
namespace Go.Proofs.Ytaooimhodoefoaa.stampTorn
open Go.ChangeShapes Go.WideShapes Go.ChangeAt Go.RowKit Mem Lift
set_option linter.unusedVariables false

theorem openR_err (s : List UInt8) (h : s.length = 256) : (Stamp.openR s).2 = if Stamp.openOk s then 0 else 50 := by
  unfold Stamp.openR
  rw [if_neg (by omega)]
  split <;> rfl
set_option maxRecDepth 100000 in
set_option maxHeartbeats 2000000 in
theorem walk_main (A B : Option Addr) (n k capa capb : Nat) (old p : List UInt8) (x : Int) (w : World) (hA : BS w A n old) (hB : BS w B k p) (hn : n ≤ 256) (hk : k ≤ 254) :
    Calls Try.prog 6 #[.slice A n capa, .slice B k capb, .int .i64 x] w fun e w' => e = .returned (.bool true) ∧ Below w.heap.size w w' := by
  have hg1 : decide ((254 : Int) < (k : Int)) = false := by simp; omega
  have hg2 : decide ((256 : Int) < (n : Int)) = false := by simp; omega
  obtain ⟨i0, hi0, hz0, hz1, hz2⟩ := info_parts sinfo8
  have HI := Lib.hid (And.intro hi0 (And.intro hz0 (And.intro hz1 hz2)))
  clear hi0 hz0 hz1 hz2
  have H0 := Lib.hid (And.intro hA hB)
  clear hA hB
  go_enter Try.func6, Try.ntmps6
  go_wp2_with fail
  refine (own05_any A n capa old w H0.out.1 (by omega)).mono ?_
  rintro e w1 ⟨v, rfl, hown, hb1⟩
  rw [H0.out.1.1] at hown
  have HO1 := Lib.hid (And.intro hown hb1)
  clear hown hb1
  go_wp2_with fail
  go_loopw [7] (fun v wr => ∃ (L : Nat) (l : List UInt8), L ≤ 256 ∧ wr.ownsRow w.heap.size 5 1 v L (u8s l) ∧ Below w.heap.size w wr) (fun v _ => 256 - sliceLen v)
  case atStart => exact ⟨n, old, hn, HO1.out.1, HO1.out.2⟩
  case round =>
    obtain ⟨L, l, hL, ho, hb⟩ := hrel
    obtain ⟨A1, c1, rfl⟩ := own_slice ho
    by_cases hlt : L < 256
    · have e8 : (L : Int) % 256 = ((UInt8.ofNat L).toNat : Int) := by rw [UInt8.toNat_ofNat']; omega
      have e9 : (L : Int) = ((UInt8.ofNat L).toNat : Int) := by rw [UInt8.toNat_ofNat']; omega
      have hB0 : BS (wr.alloc (.cells #[Value.int .u8 (L : Int)] 5)) (some ⟨wr.heap.size, 0, none⟩) 1 [UInt8.ofNat L] := BS.made wr _ _ _ [UInt8.ofNat L] (by show [Value.int .u8 (L : Int)] = [u8 (UInt8.ofNat L)]; rw [show u8 (UInt8.ofNat L) = Value.int .u8 ((UInt8.ofNat L).toNat : Int) from rfl, ← e9])
      have HO := Lib.hid (And.intro (ho.alloc (.cells #[Value.int .u8 (L : Int)] 5)) (And.intro hb hB0))
      clear ho hb hB0 e8 e9
      have hs := HO.out.2.1.size
      go_wp2_with (at_builtin; refine wpList_append_bs _ rfl (.tmp 29) (.tmp 33) 22 rfl w.heap.size 5 i0 Try.underlying22 HI.out.1 HI.out.2.1 HI.out.2.2.1 HI.out.2.2.2 (.slice A1 L c1) L (u8s l) rfl HO.out.1 (some ⟨wr.heap.size, 0, none⟩) 1 1 [UInt8.ofNat L] rfl HO.out.2.2 (by omega) (by simp; omega) ?_; intro v2 w2 hown2 hg2 hat2)
      obtain ⟨A2, c2, rfl⟩ := own_slice hown2
      go_roundw
      case rel =>
        rw [← u8s_append] at hown2
        exact ⟨L + 1, _, by omega, hown2, (HO.out.2.1.alloc hs _).grown hg2 (by simp; omega) (fun j hj => (HO.out.1.lt j hj).1)⟩
      case measure => simp [sliceLen]; omega
    · obtain rfl : L = 256 := by omega
      have hll : l.length = 256 := own_len ho
      have hcp := own_cap ho
      have HO := Lib.hid (And.intro ho (And.intro hb hll))
      clear ho hb hll
      go_wp2_with fail
      refine (own05_any A1 256 c1 l wr (BS.of_own HO.out.1) (by omega)).mono ?_
      rintro e w2 ⟨v, rfl, hown, hb2'⟩
      have hb2 : Below w.heap.size w w2 := HO.out.2.1.trans (hb2'.mono HO.out.2.1.size)
      rw [HO.out.2.2] at hown
      obtain ⟨A2, c2, rfl⟩ := own_slice hown
      have HO2 := Lib.hid (And.intro hown ((BS.of_own HO.out.1).below hb2'))
      clear hown hb2'
      have hnx : Stamp.nextR l = (Stamp.nextB l, 0) := by unfold Stamp.nextR; rw [if_neg (by have := HO.out.2.2; omega)]
      have hrg := Stamp.nextB_range l
      have HN := Lib.hid hnx
      clear hnx
      go_wp2_with fail
      refine (next_any A2 256 c2 l w2 (BS.of_own HO2.out.1)).mono ?_
      rw [HN.out]
      rintro e w3 ⟨rfl, rfl⟩
      go_wp2_with fail
      refine (own05_any B k capb p w2 (H0.out.2.below hb2) (by omega)).mono ?_
      rintro e w3 ⟨v, rfl, hown, hb3'⟩
      have hb3 : Below w.heap.size w w3 := hb2.trans (hb3'.mono hb2.size)
      rw [H0.out.2.1] at hown
      obtain ⟨A3, c3, rfl⟩ := own_slice hown
      have HO3 := Lib.hid (And.intro hown (HO2.out.2.below hb3'))
      clear hown hb3' hb2 HO2
      have hpl := H0.out.2.1
      have hwr : Stamp.wrapR (Stamp.nextB l) p = (Stamp.wrapB (Stamp.nextB l) p, 0) := by unfold Stamp.wrapR; rw [if_neg (by omega), if_neg (by omega)]
      have hwl := Stamp.wrapB_length (Stamp.nextB l) p (by omega)
      have HW := Lib.hid (And.intro hwr (And.intro hwl hpl))
      clear hwr hwl hpl
      go_wp2_with fail
      refine (wrap_any (Stamp.nextB l) A3 k c3 p w3 (BS.of_own HO3.out.1) (by omega)).mono ?_
      rw [HW.out.1]
      rintro e w4 ⟨A4, c4, rfl, hB4, hc4, hm4, hb4'⟩
      simp only [HW.out.2.1] at hB4 hc4 ⊢
      have hb4 : Below w.heap.size w w4 := hb3.trans (hb4'.mono hb3.size)
      have HO4 := Lib.hid (And.intro hB4 (HO3.out.2.below hb4'))
      clear hB4 hb4' hb3 HO3
      obtain ⟨cut, hcut, hc257⟩ : ∃ cut : Nat, wrap64 ((IntKind.u64.wrap x).tmod 257) = (cut : Int) ∧ cut < 257 := by
        have h0 : 0 ≤ IntKind.u64.wrap x := by rw [IntKind.wrap_u64]; omega
        rw [Int.tmod_eq_emod_of_nonneg h0]
        refine ⟨((IntKind.u64.wrap x) % 257).toNat, ?_, by omega⟩
        rw [IntWalk.wrap64_in _ (by omega)]
        omega
      have hcut2 : IntKind.u64.wrap x % 257 = (cut : Int) := by
        have h0 : 0 ≤ IntKind.u64.wrap x := by rw [IntKind.wrap_u64]; omega
        rw [Int.tmod_eq_emod_of_nonneg h0, IntWalk.wrap64_in _ (by omega)] at hcut
        exact hcut
      go_wp2_with fail
      rw [hcut]
      clear hcut hcut2
      refine (own05_any A4 cut c4 _ w4 (BS.take_ HO4.out.1 cut (by omega)) (by omega)).mono ?_
      rintro e w5 ⟨v5, rfl, hown, hb5'⟩
      have hb5 : Below w.heap.size w w5 := hb4.trans (hb5'.mono hb4.size)
      have htl : ((Stamp.wrapB (Stamp.nextB l) p).take cut).length = cut := by rw [List.length_take, HW.out.2.1]; omega
      rw [htl] at hown
      obtain ⟨A5, c5, rfl⟩ := own_slice hown
      have hfm : ∃ g, A1 = some ⟨g, 0, none⟩ := by
        obtain ⟨g, cc, e, _⟩ := HO.out.1.form (by omega)
        exact ⟨g, by injection e⟩
      obtain ⟨g, rfl⟩ := hfm
      have hBl := HO4.out.2.below hb5'
      have HO5 := Lib.hid (And.intro hown (And.intro hBl (And.intro (own_base hown hb4.size) htl)))
      clear hown hb5' htl hBl
      have hs5 := hb5.size
      have hs5' : w.heap.size ≤ w5.heap.size := hs5
      by_cases hc : cut = 256
      · subst hc
        have hmx := Stamp.mixed_all (Stamp.nextB l) p l (by have := HW.out.2.2; omega) HO.out.2.2
        have hok := Stamp.openOk_wrapB (Stamp.nextB l) p (by have := HW.out.2.2; omega) hrg.1 hrg.2
        have hme : (Stamp.wrapB (Stamp.nextB l) p).take 256 ++ [] = Stamp.wrapB (Stamp.nextB l) p := by rw [List.append_nil, List.take_of_length_le (by rw [HW.out.2.1]; omega)]
        have HMX := Lib.hid hme
        have HOK := Lib.hid hok
        clear hmx hok hme
        have hre := openR_err (Stamp.wrapB (Stamp.nextB l) p) HW.out.2.1
        rw [HOK.out] at hre
        have HRE := Lib.hid hre
        clear hre
        by_cases hcap : c1 = 256
        · subst hcap
          have HBc := Lib.hid (BS.empty w5 (some ⟨g, 0, none⟩))
          go_wp2_with (at_builtin; refine wpList_append_bs _ rfl (.tmp 67) (.tmp 70) 22 rfl w.heap.size 5 i0 Try.underlying22 HI.out.1 HI.out.2.1 HI.out.2.2.1 HI.out.2.2.2 (.slice A5 256 c5) 256 _ rfl HO5.out.2.2.1 (some ⟨g, 0, none⟩) 0 0 [] rfl HBc.out (by omega) hs5' ?_; intro v6 w6 hown6 hg6 hat6)
          have hb6 : Below w.heap.size w w6 := hb5.grown hg6 hs5 (fun j hj => (HO5.out.2.2.1.lt j hj).1)
          rw [← u8s_append, HMX.out] at hown6
          obtain ⟨A6, c6, rfl⟩ := own_slice hown6
          have hcp6 := own_cap hown6
          have HO6 := Lib.hid hown6
          clear hown6 hg6 hat6 hb5 hs5 hs5'
          rw [Nat.add_zero] at HO6 hcp6 ⊢
          generalize Stamp.wrapB (Stamp.nextB l) p = mx at *
          go_wp2_with fail
          refine (open_any A6 256 c6 mx w6 (BS.of_own HO6.out) (by omega) hcp6.1 hcp6.2).mono ?_
          rintro e w7 ⟨A7, c7, rfl, hB7, hc7, hm7, hb7'⟩
          have hb7 : Below w.heap.size w w7 := hb6.trans (hb7'.mono hb6.size)
          rw [HRE.out]
          clear hB7 hc7 hb7' hb6
          generalize (Stamp.openR mx).1.length = q at *
          simp only [if_true]
          go_wp2_with fail
          refine (awake05_any w7).mono ?_
          rintro e w8 ⟨rfl, hb8⟩
          go_wp2
          go_ret
          exact ⟨rfl, hb7.trans (hb8.mono hb7.size)⟩
        · have HBc := Lib.hid (BS.empty w5 (some ⟨g, 256, none⟩))
          go_wp2_with (at_builtin; refine wpList_append_bs _ rfl (.tmp 67) (.tmp 70) 22 rfl w.heap.size 5 i0 Try.underlying22 HI.out.1 HI.out.2.1 HI.out.2.2.1 HI.out.2.2.2 (.slice A5 256 c5) 256 _ rfl HO5.out.2.2.1 (some ⟨g, 256, none⟩) 0 (c1 - 256) [] rfl HBc.out (by omega) hs5' ?_; intro v6 w6 hown6 hg6 hat6)
          have hb6 : Below w.heap.size w w6 := hb5.grown hg6 hs5 (fun j hj => (HO5.out.2.2.1.lt j hj).1)
          rw [← u8s_append, HMX.out] at hown6
          obtain ⟨A6, c6, rfl⟩ := own_slice hown6
          have hcp6 := own_cap hown6
          have HO6 := Lib.hid hown6
          clear hown6 hg6 hat6 hb5 hs5 hs5'
          rw [Nat.add_zero] at HO6 hcp6 ⊢
          generalize Stamp.wrapB (Stamp.nextB l) p = mx at *
          go_wp2_with fail
          refine (open_any A6 256 c6 mx w6 (BS.of_own HO6.out) (by omega) hcp6.1 hcp6.2).mono ?_
          rintro e w7 ⟨A7, c7, rfl, hB7, hc7, hm7, hb7'⟩
          have hb7 : Below w.heap.size w w7 := hb6.trans (hb7'.mono hb6.size)
          rw [HRE.out]
          clear hB7 hc7 hb7' hb6
          generalize (Stamp.openR mx).1.length = q at *
          simp only [if_true]
          go_wp2_with fail
          refine (awake05_any w7).mono ?_
          rintro e w8 ⟨rfl, hb8⟩
          go_wp2
          go_ret
          exact ⟨rfl, hb7.trans (hb8.mono hb7.size)⟩
      · have hne : ¬ c1 = cut := by omega
        have hcl : cut < 256 := by omega
        have hBc := BS.cut_ HO5.out.2.1 cut 256 (by omega) (by omega)
        rw [Nat.zero_add] at hBc
        have HBc := Lib.hid hBc
        have hme : (Stamp.wrapB (Stamp.nextB l) p).take cut ++ (l.drop cut).take (256 - cut) = Stamp.mixed (Stamp.nextB l) p l cut := by
          unfold Stamp.mixed
          rw [List.take_of_length_le (l := l.drop cut) (by rw [List.length_drop, HO.out.2.2]; omega)]
        have HMX := Lib.hid hme
        clear hBc hme
        go_wp2_with (at_builtin; refine wpList_append_bs _ rfl (.tmp 67) (.tmp 70) 22 rfl w.heap.size 5 i0 Try.underlying22 HI.out.1 HI.out.2.1 HI.out.2.2.1 HI.out.2.2.2 (.slice A5 cut c5) cut _ rfl HO5.out.2.2.1 (some ⟨g, cut, none⟩) (256 - cut) (c1 - cut) _ rfl HBc.out (by omega) hs5' ?_; intro v6 w6 hown6 hg6 hat6)
        have hb6 : Below w.heap.size w w6 := hb5.grown hg6 hs5 (fun j hj => (HO5.out.2.2.1.lt j hj).1)
        rw [← u8s_append, HMX.out] at hown6
        obtain ⟨A6, c6, rfl⟩ := own_slice hown6
        have hcp6 := own_cap hown6
        have HO6 := Lib.hid hown6
        clear hown6 hg6 hat6 hb5 hs5 hs5'
        have hml := Stamp.mixed_length (Stamp.nextB l) p l cut (by have := HW.out.2.2; omega) HO.out.2.2 (by omega)
        have hre := openR_err (Stamp.mixed (Stamp.nextB l) p l cut) hml
        have htorn := Stamp.mixed_torn p l cut (by have := HW.out.2.2; omega) HO.out.2.2
        have HRE := Lib.hid (And.intro hre (And.intro htorn hml))
        clear hre htorn hml
        have hL : cut + (256 - cut) = 256 := by omega
        rw [hL] at HO6 ⊢
        clear hL
        generalize Stamp.mixed (Stamp.nextB l) p l cut = mx at *
        go_wp2_with fail
        refine (open_any A6 256 c6 mx w6 (BS.of_own HO6.out) (by omega) (by omega) hcp6.2).mono ?_
        rintro e w7 ⟨A7, c7, rfl, hB7, hc7, hm7, hb7'⟩
        have hb7 : Below w.heap.size w w7 := hb6.trans (hb7'.mono hb6.size)
        rw [HRE.out.1]
        clear hB7 hc7 hb7' hb6
        have hq1 : ((cut : Int) == 256) = false := by rw [beq_eq_false_iff_ne]; omega
        generalize (Stamp.openR mx).1.length = q at *
        by_cases h0 : cut = 0
        · have hq0 : ((cut : Int) == 0) = true := by rw [beq_iff_eq]; omega
          cases hoo : Stamp.openOk mx
          all_goals
            simp only [Bool.false_eq_true, if_false, if_true]
            go_wp2_with fail
            refine (awake05_any w7).mono ?_
            rintro e w8 ⟨rfl, hb8⟩
            go_wp2
            go_ret
            exact ⟨rfl, hb7.trans (hb8.mono hb7.size)⟩
        · rw [HRE.out.2.1 (by omega) hcl]
          simp only [Bool.false_eq_true, if_false]
          go_wp2_with fail
          refine (awake05_any w7).mono ?_
          rintro e w8 ⟨rfl, hb8⟩
          go_wp2
          go_ret
          exact ⟨rfl, hb7.trans (hb8.mono hb7.size)⟩
set_option maxHeartbeats 400000 in
theorem walk (A : Option Addr) (n capa : Nat) (old : List UInt8) (B : Option Addr) (k capb : Nat) (p : List UInt8) (x : Int) (w : World) (hA : BS w A n old) (hnc : n ≤ capa) (hcm : capa ≤ maxLen) (hB : BS w B k p) (hnc2 : k ≤ capb) (hcm2 : capb ≤ maxLen) (h0 : -9223372036854775808 ≤ x) (h1 : x ≤ 9223372036854775807) :
    Calls Try.prog 6 #[.slice A n capa, .slice B k capb, .int .i64 x] w fun e w' => e = .returned (.bool true) ∧ Below w.heap.size w w' := by
  by_cases h2 : k ≤ 254
  · by_cases h3 : n ≤ 256
    · exact walk_main A B n k capa capb old p x w hA hB h3 h2
    · have hg : decide ((254 : Int) < (k : Int)) = false := by simp; omega
      have hg2 : decide ((256 : Int) < (n : Int)) = true := by simp; omega
      go_enter Try.func6, Try.ntmps6
      go_wp2_with fail
      refine (awake05_any w).mono ?_
      rintro e w2 ⟨rfl, hb2⟩
      go_wp2
      go_ret
      exact ⟨rfl, hb2⟩
  · have hg : decide ((254 : Int) < (k : Int)) = true := by simp; omega
    go_enter Try.func6, Try.ntmps6
    go_wp2_with fail
    refine (awake05_any w).mono ?_
    rintro e w2 ⟨rfl, hb2⟩
    go_wp2
    go_ret
    exact ⟨rfl, hb2⟩

theorem own : ownKnob Try.prog.godebug = none := by kernel_rfl
theorem laidOut : laidOutB Try.prog = true := by kernel_rfl
theorem params_ok : ∀ t ∈ Try.f6.params.toList, Try.prog.readableRec t = true ∧ t < Try.prog.types.size := by
  rw [Try.params6]
  intro t ht
  have ht' : t = 22 ∨ t = 3 := by
    simpa using ht
  rcases ht' with rfl | rfl
  · exact ⟨(show Try.prog.readableRec 22 = true by kernel_rfl), of_decide_eq_true (show decide (22 < Try.prog.types.size) = true by kernel_rfl)⟩
  · exact ⟨(show Try.prog.readableRec 3 = true by kernel_rfl), of_decide_eq_true (show decide (3 < Try.prog.types.size) = true by kernel_rfl)⟩

set_option maxRecDepth 100000 in
theorem contract (H : Type) (enc : TypeId × Value → H) (W : World) (base : Nat) (args : Array Value) (ds gs : List (DataW H)) (before : List MemPlace)
    (hval : ∀ (j : Nat) t v, Try.f6.params[j]? = some t → args[j]? = some v → Value.okWide Try.prog W .any base t v)
    (hW : DataW.Whole enc Try.prog Try.f6.params.toList Rows.stampTornSpec.vars false W args.toList ds gs before) :
    Calls Try.prog 6 args W fun e W' => ∃ v, e = .returned v ∧ Rows.stampTornSpec.post enc Try.prog Try.f6 false true false false W args v W' := by
  have hW' := hW
  obtain ⟨p, q, hA0, hV, rfl, hfz, hnd⟩ := hW
  have hA : DataW.TrodAll enc Try.prog W 0 (fun _ => true) true Try.f6.params.toList args.toList ds p := hA0
  rw [Try.params6] at hA hval
  obtain ⟨v0, vs0, d0, ds0, p0, q0, hargs, rfl, rfl, h0, r0⟩ := trodAll_cons hA
  obtain ⟨v1, vs1, d1, ds1, p1, q1, rfl, rfl, rfl, h1, r1⟩ := trodAll_cons r0
  obtain ⟨v2, vs2, d2, ds2, p2, q2, rfl, rfl, rfl, h2, r2⟩ := trodAll_cons r1
  obtain ⟨rfl, rfl, rfl⟩ := trodAll_nil r2
  obtain rfl : args = #[v0, v1, v2] := by cases args; simp_all
  obtain ⟨rfl, rfl⟩ := trodVars_none hV
  obtain ⟨A0, n0, c0, bs0, rfl, bs0h, nc0, cm0, dd0⟩ := open_bytes Try.underlying22 Try.underlying5 (show Try.prog.cellsOf 5 = 1 by kernel_rfl) (hval 0 22 v0 rfl rfl) h0
  obtain ⟨A1, n1, c1, bs1, rfl, bs1h, nc1, cm1, dd1⟩ := open_bytes Try.underlying22 Try.underlying5 (show Try.prog.cellsOf 5 = 1 by kernel_rfl) (hval 1 22 v1 rfl rfl) h1
  obtain ⟨x2, rfl, rfl, rfl, w2⟩ := open_int Try.underlying3 (hval 2 3 v2 rfl rfl) h2
  have b2 := bounds_i64 w2
  refine (walk A0 n0 c0 bs0 A1 n1 c1 bs1 x2 W bs0h nc0 cm0 bs1h nc1 cm1 b2.1 b2.2).mono fun e W' ⟨he, bel⟩ => ?_
  exact ⟨_, he, post_true laidOut Try.underlying4 (show Try.f6.resultTypes = #[4] from rfl) params_ok rfl hW' rfl bel⟩

theorem laid_met (os : Os) : laidMet Try.prog Rows.stampTornRow.laid ((World.holding Try.prog os ⟨#[], #[], []⟩).forCall (fun _ _ => 0) ⟨#[], #[.slice none 0 0, .slice none 0 0, .int .i64 0], []⟩).memory :=
  laidMet_of_run' 8 (by kernel_rfl) (by kernel_rfl)
theorem reads (os : Os) {H : Type} (enc : TypeId × Value → H) : ∃ places, DataW.whole enc Try.prog ((World.holding Try.prog os ⟨#[], #[], []⟩).forCall (fun _ _ => 0) ⟨#[], #[.slice none 0 0, .slice none 0 0, .int .i64 0], []⟩).memory Try.f6.params.toList Rows.stampTornSpec.vars false (#[Value.slice none 0 0, Value.slice none 0 0, Value.int .i64 0] : Array Value).toList 8 = some ([.nil, .nil, .lit (.int .i64 0)], [], places) :=
  ⟨[], by kernel_rfl⟩
set_option maxRecDepth 100000 in
theorem lifted (os : Os) (started : os.Started) (H : Type) (enc : TypeId × Value → H) (F : Stop.Interp) :
    ReturnsInHanded {} Try.checked os 6 .any ((OpenSpec.ofChange Rows.stampTornSpec).preRow enc Try.prog Try.f6 Rows.stampTornRow.domain false Rows.stampTornRow.laid) (((OpenSpec.ofChange Rows.stampTornSpec).at F).post enc Try.prog Try.f6 false true false false) := by
  obtain ⟨places, hx⟩ := reads os enc
  refine returnsInHanded_of_row (C := Try.checked) (s := OpenSpec.ofChange Rows.stampTornSpec) own started (by kernel_rfl) Try.func6
    (witness_row_at (enc := enc) (C := Try.checked) false (World.holding Try.prog os ⟨#[], #[], []⟩) #[.slice none 0 0, .slice none 0 0, .int .i64 0] rfl (by kernel_rfl) (by kernel_rfl) (by kernel_rfl)
      (OpenSpec.preRow_of_cond 8 hx (by kernel_rfl) (fun k hk => by cases hk) (by kernel_rfl) (laid_met os))) ?_
  intro W base args ds gs before hval hW _ _ hsz hL _ _
  exact contract H enc W base args ds gs before hval hW
theorem said : Rows.StampTornSaid :=
  OpenClaim.holds_of_cond 6 Try.f6 rfl rfl rfl rfl rfl rfl rfl ⟨rfl, rfl, rfl, rfl, rfl⟩ rfl rfl rfl rfl rfl (by kernel_rfl) Try.func6 (by kernel_rfl)
    (of_decide_eq_true (by kernel_rfl)) (by unfold Func.isWrapper; first | (rw [if_pos (by decide +kernel)]; kernel_rfl) | (rw [if_neg (by decide +kernel)]; exact ⟨rfl, rfl⟩))
    (fun os started H enc _ F => by rw [OpenClaim.pre_eq_preRow]; exact lifted os started H enc F)
#print axioms said
end Go.Proofs.Ytaooimhodoefoaa.stampTorn
