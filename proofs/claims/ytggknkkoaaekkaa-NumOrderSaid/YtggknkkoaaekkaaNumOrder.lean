/- NumOrder: of two numbers the lower one's wide bytes come first, and its short bytes are no longer; no condition. -/
import Derived.Test.YtggknkkoaaekkaaNumRefs
import Derived.Test.YtggknkkoaaekkaaLift
namespace Go.Proofs.Ytggknkkoaaekkaa.numOrder
open Go.ChangeShapes Go.WideShapes Go.ChangeAt Go.RowKit Mem Lift
set_option linter.unusedVariables false

theorem lt8 {a : Nat} (h : a < 18446744073709551616) : a < 256 ^ 8 := h
set_option maxHeartbeats 1000000 in
theorem walk0 (a b : Nat) (w : World) (ha : a < 18446744073709551616) (hb : b < 18446744073709551616) :
    Calls Try.prog 3 #[.int .u64 a, .int .u64 b] w fun e w' => e = .returned (.bool true) ∧ Below w.heap.size w w' := by
  have hless := Num.less_wide 8 a b (lt8 ha) (lt8 hb)
  have hmono : a ≤ b → (Num.shortB a).length ≤ (Num.shortB b).length := Num.shortB_mono a b
  have hla := Num.shortB_length_le a
  have hlb := Num.shortB_length_le b
  have H0 := Lib.hid (And.intro hless hmono)
  clear hless hmono
  go_enter Try.func3, Try.ntmps3
  go_wp2_with fail
  refine (wide_ok a 8 w ha (by omega) (by omega) (lt8 ha)).mono ?_
  rintro e w1 ⟨v, rfl, hown, hb1⟩
  rw [Num.wideB_length] at hown
  obtain ⟨A1, c1, rfl⟩ := own_slice hown
  have HO1 := Lib.hid hown
  clear hown
  go_wp2_with fail
  refine (wide_ok b 8 w1 hb (by omega) (by omega) (lt8 hb)).mono ?_
  rintro e w2 ⟨v, rfl, hown, hb2'⟩
  have hb2 : Below w.heap.size w w2 := hb1.trans (hb2'.mono hb1.size)
  rw [Num.wideB_length] at hown
  obtain ⟨A2, c2, rfl⟩ := own_slice hown
  have HO2 := Lib.hid (And.intro hown ((BS.of_own HO1.out).below hb2'))
  clear hown hb1 hb2'
  go_wp2_with fail
  refine (less_any A1 A2 8 8 c1 c2 _ _ w2 HO2.out.2 (BS.of_own HO2.out.1) (by omega) (by omega)).mono ?_
  rintro e w3 ⟨rfl, hd⟩
  have hb3 : Below w.heap.size w w3 := hb2.trans (hd.below.mono hb2.size)
  clear hb2 hd
  rw [H0.out.1]
  have hcmp : (decide (a < b) == decide (a < b)) = true := by simp
  by_cases hab : b < a
  · have hg : decide (b < a) = true := by simp; omega
    go_wp2_with fail
    refine (awake01_any w3).mono ?_
    rintro e w4 ⟨rfl, hb4⟩
    go_wp2
    go_ret
    exact ⟨rfl, hb3.trans (hb4.mono hb3.size)⟩
  · have hg : decide (b < a) = false := by simp; omega
    have hl := H0.out.2 (by omega)
    go_wp2_with fail
    refine (short_any a w3 ha).mono ?_
    rintro e w4 ⟨v, rfl, hown, hb4'⟩
    have hb4 : Below w.heap.size w w4 := hb3.trans (hb4'.mono hb3.size)
    obtain ⟨A4, c4, rfl⟩ := own_slice hown
    clear hb3 hb4' hown
    go_wp2_with fail
    refine (short_any b w4 hb).mono ?_
    rintro e w5 ⟨v, rfl, hown, hb5'⟩
    have hb5 : Below w.heap.size w w5 := hb4.trans (hb5'.mono hb4.size)
    obtain ⟨A5, c5, rfl⟩ := own_slice hown
    clear hb4 hb5' hown
    go_wp2_with fail
    refine (awake01_any w5).mono ?_
    rintro e w6 ⟨rfl, hb6⟩
    go_wp2
    go_ret
    exact ⟨rfl, hb5.trans (hb6.mono hb5.size)⟩
theorem walk (x y : Int) (w : World) (h0 : 0 ≤ x) (h1 : x ≤ 18446744073709551615) (h2 : 0 ≤ y) (h3 : y ≤ 18446744073709551615) :
    Calls Try.prog 3 #[.int .u64 x, .int .u64 y] w fun e w' => e = .returned (.bool true) ∧ Below w.heap.size w w' := by
  obtain ⟨a, rfl⟩ := Int.eq_ofNat_of_zero_le h0
  obtain ⟨b, rfl⟩ := Int.eq_ofNat_of_zero_le h2
  exact walk0 a b w (by omega) (by omega)

theorem own : ownKnob Try.prog.godebug = none := by kernel_rfl
theorem laidOut : laidOutB Try.prog = true := by kernel_rfl
theorem params_ok : ∀ t ∈ Try.f3.params.toList, Try.prog.readableRec t = true ∧ t < Try.prog.types.size := by
  rw [Try.params3]
  intro t ht
  have ht' : t = 22 := by
    simpa using ht
  subst ht'
  exact ⟨(show Try.prog.readableRec 22 = true by kernel_rfl), of_decide_eq_true (show decide (22 < Try.prog.types.size) = true by kernel_rfl)⟩

set_option maxRecDepth 100000 in
theorem contract (H : Type) (enc : TypeId × Value → H) (W : World) (base : Nat) (args : Array Value) (ds gs : List (DataW H)) (before : List MemPlace)
    (hval : ∀ (j : Nat) t v, Try.f3.params[j]? = some t → args[j]? = some v → Value.okWide Try.prog W .any base t v)
    (hW : DataW.Whole enc Try.prog Try.f3.params.toList Rows.numOrderSpec.vars false W args.toList ds gs before) :
    Calls Try.prog 3 args W fun e W' => ∃ v, e = .returned v ∧ Rows.numOrderSpec.post enc Try.prog Try.f3 false true false false W args v W' := by
  have hW' := hW
  obtain ⟨p, q, hA0, hV, rfl, hfz, hnd⟩ := hW
  have hA : DataW.TrodAll enc Try.prog W 0 (fun _ => true) true Try.f3.params.toList args.toList ds p := hA0
  rw [Try.params3] at hA hval
  obtain ⟨v0, vs0, d0, ds0, p0, q0, hargs, rfl, rfl, h0, r0⟩ := trodAll_cons hA
  obtain ⟨v1, vs1, d1, ds1, p1, q1, rfl, rfl, rfl, h1, r1⟩ := trodAll_cons r0
  obtain ⟨rfl, rfl, rfl⟩ := trodAll_nil r1
  obtain rfl : args = #[v0, v1] := by cases args; simp_all
  obtain ⟨rfl, rfl⟩ := trodVars_none hV
  obtain ⟨x0, rfl, rfl, rfl, w0⟩ := open_int Try.underlying22 (hval 0 22 v0 rfl rfl) h0
  have b0 := bounds_u64 w0
  obtain ⟨x1, rfl, rfl, rfl, w1⟩ := open_int Try.underlying22 (hval 1 22 v1 rfl rfl) h1
  have b1 := bounds_u64 w1
  refine (walk x0 x1 W b0.1 b0.2 b1.1 b1.2).mono fun e W' ⟨he, bel⟩ => ?_
  exact ⟨_, he, post_true laidOut Try.underlying4 (show Try.f3.resultTypes = #[4] from rfl) params_ok rfl hW' rfl bel⟩

theorem laid_met (os : Os) : laidMet Try.prog Rows.numOrderRow.laid ((World.holding Try.prog os ⟨#[], #[], []⟩).forCall (fun _ _ => 0) ⟨#[], #[.int .u64 0, .int .u64 0], []⟩).memory :=
  laidMet_of_run' 8 (by kernel_rfl) (by kernel_rfl)
theorem reads (os : Os) {H : Type} (enc : TypeId × Value → H) : ∃ places, DataW.whole enc Try.prog ((World.holding Try.prog os ⟨#[], #[], []⟩).forCall (fun _ _ => 0) ⟨#[], #[.int .u64 0, .int .u64 0], []⟩).memory Try.f3.params.toList Rows.numOrderSpec.vars false (#[Value.int .u64 0, Value.int .u64 0] : Array Value).toList 8 = some ([.lit (.int .u64 0), .lit (.int .u64 0)], [], places) :=
  ⟨[], by kernel_rfl⟩
set_option maxRecDepth 100000 in
theorem lifted (os : Os) (started : os.Started) (H : Type) (enc : TypeId × Value → H) (F : Stop.Interp) :
    ReturnsInHanded {} Try.checked os 3 .any ((OpenSpec.ofChange Rows.numOrderSpec).preRow enc Try.prog Try.f3 Rows.numOrderRow.domain false Rows.numOrderRow.laid) (((OpenSpec.ofChange Rows.numOrderSpec).at F).post enc Try.prog Try.f3 false true false false) := by
  obtain ⟨places, hx⟩ := reads os enc
  refine returnsInHanded_of_row (C := Try.checked) (s := OpenSpec.ofChange Rows.numOrderSpec) own started (by kernel_rfl) Try.func3
    (witness_row_at (enc := enc) (C := Try.checked) false (World.holding Try.prog os ⟨#[], #[], []⟩) #[.int .u64 0, .int .u64 0] rfl (by kernel_rfl) (by kernel_rfl) (by kernel_rfl)
      (OpenSpec.preRow_of_cond 8 hx (by kernel_rfl) (fun k hk => by cases hk) (by kernel_rfl) (laid_met os))) ?_
  intro W base args ds gs before hval hW _ _ _ hL _ _
  exact contract H enc W base args ds gs before hval hW
theorem said : Rows.NumOrderSaid :=
  OpenClaim.holds_of_cond 3 Try.f3 rfl rfl rfl rfl rfl rfl rfl ⟨rfl, rfl, rfl, rfl, rfl⟩ rfl rfl rfl rfl rfl (by kernel_rfl) Try.func3 (by kernel_rfl)
    (of_decide_eq_true (by kernel_rfl)) (by unfold Func.isWrapper; first | (rw [if_pos (by decide +kernel)]; kernel_rfl) | (rw [if_neg (by decide +kernel)]; exact ⟨rfl, rfl⟩))
    (fun os started H enc _ F => by rw [OpenClaim.pre_eq_preRow]; exact lifted os started H enc F)
#print axioms said
end Go.Proofs.Ytggknkkoaaekkaa.numOrder
