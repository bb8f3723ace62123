/- NumCuts: of no beginning of short bytes a number is read; no condition. -/
import Derived.Test.YtggknkkoaaekkaaNumRefs
import Derived.Test.YtggknkkoaaekkaaLift
namespace Go.Proofs.Ytggknkkoaaekkaa.numCuts
open Go.ChangeShapes Go.WideShapes Go.ChangeAt Go.RowKit Mem Lift
set_option linter.unusedVariables false

theorem own_take {w : World} {base : Nat} {e : TypeId} {A : Option Addr} {n c : Nat} {bs : List UInt8} (h : w.ownsRow base e 1 (.slice A n c) n (u8s bs)) (j : Nat) (hj : j ≤ n) : BS w A j (bs.take j) := by
  have hb := BS.of_own h
  refine ⟨by rw [List.length_take, hb.1]; omega, fun hp => ?_⟩
  obtain ⟨b, off, rfl, hlt, hc⟩ := hb.2 (by omega)
  refine ⟨b, off, rfl, hlt, fun i hi => ?_⟩
  rw [List.length_take] at hi
  rw [hc i (by omega), List.getD_eq_getElem?_getD, List.getD_eq_getElem?_getD, List.getElem?_take, if_pos (by omega)]
set_option maxHeartbeats 1000000 in
theorem walk0 (n : Nat) (cut : Int) (w : World) (hn : n < 18446744073709551616) (h0 : -9223372036854775808 ≤ cut) (h1 : cut ≤ 9223372036854775807) :
    Calls Try.prog 5 #[.int .u64 n, .int .i64 cut] w fun e w' => e = .returned (.bool true) ∧ Below w.heap.size w w' := by
  have hl := Num.shortB_length_le n
  have hl1 : 1 ≤ (Num.shortB n).length := by rw [Num.shortB_length]; omega
  generalize hL : (Num.shortB n).length = L at *
  have HL := Lib.hid hL
  clear hL
  by_cases hc : cut < 0
  · have hg : decide (cut < 0) = true := by simp; omega
    go_enter Try.func5, Try.ntmps5
    go_wp2_with fail
    refine (short_any n w hn).mono ?_
    rintro e w1 ⟨v, rfl, hown, hb1⟩
    rw [HL.out] at hown
    obtain ⟨A1, c1, rfl⟩ := own_slice hown
    clear hown
    go_wp2_with fail
    refine (awake01_any w1).mono ?_
    rintro e w2 ⟨rfl, hb2⟩
    go_wp2
    go_ret
    exact ⟨rfl, hb1.trans (hb2.mono hb1.size)⟩
  · have hg : decide (cut < 0) = false := by simp; omega
    have hg2 : ((L : Int) == 0) = false := by rw [beq_eq_false_iff_ne]; omega
    obtain ⟨j, hj, hjl⟩ : ∃ j : Nat, cut % (L : Int) = (j : Int) ∧ j < L := by
      have a := Int.emod_nonneg cut (show (L : Int) ≠ 0 by omega)
      have b := Int.emod_lt_of_pos cut (show (0 : Int) < L by omega)
      exact ⟨(cut % (L : Int)).toNat, by omega, by omega⟩
    have ht := Num.take_cut n j hn (by rw [HL.out]; exact hjl)
    have HT := Lib.hid (And.intro ht hj)
    clear ht hj
    go_enter Try.func5, Try.ntmps5
    go_wp2_with fail
    refine (short_any n w hn).mono ?_
    rintro e w1 ⟨v, rfl, hown, hb1⟩
    rw [HL.out] at hown
    obtain ⟨A1, c1, rfl⟩ := own_slice hown
    have hcap : L ≤ c1 ∧ c1 ≤ maxLen := by
      rcases hown.2 with ⟨h, h'⟩ | ⟨g, cap, cur, h, _, _, hnc, hcm, _⟩
      · omega
      · injection h with _ _ h; subst h; exact ⟨hnc, hcm⟩
    unfold maxLen at hcap
    have HO := Lib.hid hown
    clear hown
    have hj := HT.out.2
    go_wp2_with fail
    refine (takeShort_any A1 j c1 _ w1 (own_take HO.out j (by omega)) (by omega)).mono ?_
    rintro e w2 ⟨rfl, rfl⟩
    rw [HT.out.1]
    go_wp2_with fail
    refine (awake01_any w1).mono ?_
    rintro e w2 ⟨rfl, hb2⟩
    go_wp2
    go_ret
    exact ⟨rfl, hb1.trans (hb2.mono hb1.size)⟩
theorem walk (x y : Int) (w : World) (h0 : 0 ≤ x) (h1 : x ≤ 18446744073709551615) (h2 : -9223372036854775808 ≤ y) (h3 : y ≤ 9223372036854775807) :
    Calls Try.prog 5 #[.int .u64 x, .int .i64 y] w fun e w' => e = .returned (.bool true) ∧ Below w.heap.size w w' := by
  obtain ⟨a, rfl⟩ := Int.eq_ofNat_of_zero_le h0
  exact walk0 a y w (by omega) h2 h3

theorem own : ownKnob Try.prog.godebug = none := by kernel_rfl
theorem laidOut : laidOutB Try.prog = true := by kernel_rfl
theorem params_ok : ∀ t ∈ Try.f5.params.toList, Try.prog.readableRec t = true ∧ t < Try.prog.types.size := by
  rw [Try.params5]
  intro t ht
  have ht' : t = 22 ∨ t = 3 := by
    simpa using ht
  rcases ht' with rfl | rfl
  · exact ⟨(show Try.prog.readableRec 22 = true by kernel_rfl), of_decide_eq_true (show decide (22 < Try.prog.types.size) = true by kernel_rfl)⟩
  · exact ⟨(show Try.prog.readableRec 3 = true by kernel_rfl), of_decide_eq_true (show decide (3 < Try.prog.types.size) = true by kernel_rfl)⟩

set_option maxRecDepth 100000 in
theorem contract (H : Type) (enc : TypeId × Value → H) (W : World) (base : Nat) (args : Array Value) (ds gs : List (DataW H)) (before : List MemPlace)
    (hval : ∀ (j : Nat) t v, Try.f5.params[j]? = some t → args[j]? = some v → Value.okWide Try.prog W .any base t v)
    (hW : DataW.Whole enc Try.prog Try.f5.params.toList Rows.numCutsSpec.vars false W args.toList ds gs before) :
    Calls Try.prog 5 args W fun e W' => ∃ v, e = .returned v ∧ Rows.numCutsSpec.post enc Try.prog Try.f5 false true false false W args v W' := by
  have hW' := hW
  obtain ⟨p, q, hA0, hV, rfl, hfz, hnd⟩ := hW
  have hA : DataW.TrodAll enc Try.prog W 0 (fun _ => true) true Try.f5.params.toList args.toList ds p := hA0
  rw [Try.params5] at hA hval
  obtain ⟨v0, vs0, d0, ds0, p0, q0, hargs, rfl, rfl, h0, r0⟩ := trodAll_cons hA
  obtain ⟨v1, vs1, d1, ds1, p1, q1, rfl, rfl, rfl, h1, r1⟩ := trodAll_cons r0
  obtain ⟨rfl, rfl, rfl⟩ := trodAll_nil r1
  obtain rfl : args = #[v0, v1] := by cases args; simp_all
  obtain ⟨rfl, rfl⟩ := trodVars_none hV
  obtain ⟨x0, rfl, rfl, rfl, w0⟩ := open_int Try.underlying22 (hval 0 22 v0 rfl rfl) h0
  have b0 := bounds_u64 w0
  obtain ⟨x1, rfl, rfl, rfl, w1⟩ := open_int Try.underlying3 (hval 1 3 v1 rfl rfl) h1
  have b1 := bounds_i64 w1
  refine (walk x0 x1 W b0.1 b0.2 b1.1 b1.2).mono fun e W' ⟨he, bel⟩ => ?_
  exact ⟨_, he, post_true laidOut Try.underlying4 (show Try.f5.resultTypes = #[4] from rfl) params_ok rfl hW' rfl bel⟩

theorem laid_met (os : Os) : laidMet Try.prog Rows.numCutsRow.laid ((World.holding Try.prog os ⟨#[], #[], []⟩).forCall (fun _ _ => 0) ⟨#[], #[.int .u64 0, .int .i64 0], []⟩).memory :=
  laidMet_of_run' 8 (by kernel_rfl) (by kernel_rfl)
theorem reads (os : Os) {H : Type} (enc : TypeId × Value → H) : ∃ places, DataW.whole enc Try.prog ((World.holding Try.prog os ⟨#[], #[], []⟩).forCall (fun _ _ => 0) ⟨#[], #[.int .u64 0, .int .i64 0], []⟩).memory Try.f5.params.toList Rows.numCutsSpec.vars false (#[Value.int .u64 0, Value.int .i64 0] : Array Value).toList 8 = some ([.lit (.int .u64 0), .lit (.int .i64 0)], [], places) :=
  ⟨[], by kernel_rfl⟩
set_option maxRecDepth 100000 in
theorem lifted (os : Os) (started : os.Started) (H : Type) (enc : TypeId × Value → H) (F : Stop.Interp) :
    ReturnsInHanded {} Try.checked os 5 .any ((OpenSpec.ofChange Rows.numCutsSpec).preRow enc Try.prog Try.f5 Rows.numCutsRow.domain false Rows.numCutsRow.laid) (((OpenSpec.ofChange Rows.numCutsSpec).at F).post enc Try.prog Try.f5 false true false false) := by
  obtain ⟨places, hx⟩ := reads os enc
  refine returnsInHanded_of_row (C := Try.checked) (s := OpenSpec.ofChange Rows.numCutsSpec) own started (by kernel_rfl) Try.func5
    (witness_row_at (enc := enc) (C := Try.checked) false (World.holding Try.prog os ⟨#[], #[], []⟩) #[.int .u64 0, .int .i64 0] rfl (by kernel_rfl) (by kernel_rfl) (by kernel_rfl)
      (OpenSpec.preRow_of_cond 8 hx (by kernel_rfl) (fun k hk => by cases hk) (by kernel_rfl) (laid_met os))) ?_
  intro W base args ds gs before hval hW _ _ _ hL _ _
  exact contract H enc W base args ds gs before hval hW
theorem said : Rows.NumCutsSaid :=
  OpenClaim.holds_of_cond 5 Try.f5 rfl rfl rfl rfl rfl rfl rfl ⟨rfl, rfl, rfl, rfl, rfl⟩ rfl rfl rfl rfl rfl (by kernel_rfl) Try.func5 (by kernel_rfl)
    (of_decide_eq_true (by kernel_rfl)) (by unfold Func.isWrapper; first | (rw [if_pos (by decide +kernel)]; kernel_rfl) | (rw [if_neg (by decide +kernel)]; exact ⟨rfl, rfl⟩))
    (fun os started H enc _ F => by rw [OpenClaim.pre_eq_preRow]; exact lifted os started H enc F)
#print axioms said
end Go.Proofs.Ytggknkkoaaekkaa.numCuts
