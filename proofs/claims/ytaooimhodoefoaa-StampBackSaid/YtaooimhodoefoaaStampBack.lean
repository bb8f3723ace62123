/- StampBack: what was wrapped is opened as it was, noughts behind it; no condition. -/
import Derived.Test.YtaooimhodoefoaaStampRefs
import Derived.Test.YtaooimhodoefoaaOwn05
import Derived.Test.YtaooimhodoefoaaLift
namespace Go.Proofs.Ytaooimhodoefoaa.stampBack
open Go.ChangeShapes Go.WideShapes Go.ChangeAt Go.RowKit Mem Lift
set_option linter.unusedVariables false

theorem zero_tail (p : List UInt8) (k i : Nat) (h : p.length ≤ i) : (p ++ List.replicate k 0).getD i 0 = 0 := by
  rw [List.getD_eq_getElem?_getD, List.getElem?_append_right h, List.getElem?_replicate]
  split <;> rfl
set_option maxRecDepth 100000 in
set_option maxHeartbeats 1000000 in
theorem walk_main (m : UInt8) (A : Option Addr) (n cap : Nat) (p : List UInt8) (w : World) (hA : BS w A n p) (h1 : 1 ≤ m.toNat) (h3 : m.toNat ≤ 3) (hn : n ≤ 254) :
    Calls Try.prog 4 #[.int .u8 m.toNat, .slice A n cap] w fun e w' => e = .returned (.bool true) ∧ Below w.heap.size w w' := by
  have hg1 : decide ((m.toNat : Int) < 1) = false := by simp; omega
  have hg2 : decide (3 < (m.toNat : Int)) = false := by simp; omega
  have hg3 : decide ((254 : Int) < (n : Int)) = false := by simp; omega
  have hl := hA.1
  have hwr : Stamp.wrapR m p = (Stamp.wrapB m p, 0) := by unfold Stamp.wrapR; rw [if_neg (by omega), if_neg (by omega)]
  have hwl := Stamp.wrapB_length m p (by omega)
  have hop : Stamp.openR (Stamp.wrapB m p) = (Stamp.openB (Stamp.wrapB m p), 0) := by
    unfold Stamp.openR
    rw [if_neg (by omega), Stamp.openOk_wrapB m p (by omega) h1 h3, if_pos rfl]
  have hol := Stamp.openB_length _ hwl
  have hoe := Stamp.openB_wrapB m p (by omega)
  have htk : (Stamp.openB (Stamp.wrapB m p)).take n = p := by rw [hoe, ← hl, List.take_left]
  have hz : ∀ i, n ≤ i → (Stamp.openB (Stamp.wrapB m p)).getD i 0 = 0 := fun i hi => by rw [hoe]; exact zero_tail p _ i (by omega)
  generalize Stamp.openB (Stamp.wrapB m p) = q at *
  generalize Stamp.wrapB m p = s at *
  have H0 := Lib.hid (And.intro hA (And.intro hwr (And.intro hwl (And.intro hop (And.intro hol (And.intro htk (And.intro hz hl)))))))
  clear hA hwr hwl hop hol hoe htk hz hl
  go_enter Try.func4, Try.ntmps4
  go_wp2_with fail
  refine (own05_any A n cap p w H0.out.1 (by omega)).mono ?_
  rintro e w1 ⟨v, rfl, hown, hb1⟩
  rw [H0.out.1.1] at hown
  obtain ⟨A1, c1, rfl⟩ := own_slice hown
  have HO1 := Lib.hid hown
  clear hown
  go_wp2_with fail
  refine (wrap_any m A1 n c1 p w1 (BS.of_own HO1.out) (by omega)).mono ?_
  rw [H0.out.2.1]
  rintro e w2 ⟨A2, c2, rfl, hB2, hc2, hm2, hb2'⟩
  simp only [H0.out.2.2.1] at hB2 hc2 ⊢
  have hb2 : Below w.heap.size w w2 := hb1.trans (hb2'.mono hb1.size)
  have HB2 := Lib.hid hB2
  clear hB2 hb1 hb2'
  go_wp2_with fail
  refine (open_any A2 256 c2 s w2 HB2.out (by omega) hc2 hm2).mono ?_
  rw [H0.out.2.2.2.1]
  rintro e w3 ⟨A3, c3, rfl, hB3, hc3, hm3, hb3'⟩
  simp only [H0.out.2.2.2.2.1] at hB3 hc3 ⊢
  have hb3 : Below w.heap.size w w3 := hb2.trans (hb3'.mono hb2.size)
  obtain ⟨b, off, rfl, _, hcell⟩ := hB3.2 (by omega)
  have HB3 := Lib.hid (And.intro hB3 hcell)
  clear hB3 hb2 hb3' hcell
  go_wp2_with fail
  go_loop [4, 9] (fun r i => ∃ (k : Nat), n ≤ k ∧ k ≤ 254 ∧ i = .int .i64 k ∧ r = .bool false) (fun _ i => 254 - (intOf i).toNat)
  case atStart => exact ⟨n, by omega, by omega, rfl, rfl⟩
  case round =>
    obtain ⟨k, hk1, hk2, rfl, rfl⟩ := hrel
    by_cases hlt : k < 254
    · have hc := HB3.out.2 k (by rw [H0.out.2.2.2.2.1]; exact hlt)
      rw [H0.out.2.2.2.2.2.2.1 k hk1] at hc
      have hc' : w3.cell? ⟨b, off + k, none⟩ = some (.int .u8 0) := hc
      clear hc
      go_wp2
      go_round
      case rel => exact ⟨k + 1, by omega, by omega, by go_num, rfl⟩
      case measure => simp [intOf]; omega
    · obtain rfl : k = 254 := by omega
      go_wp2_with fail
      refine (same_any _ A n n c3 cap (q.take n) p w3 (BS.take_ HB3.out.1 n (by omega)) (H0.out.1.below hb3) (by omega) (by omega)).mono ?_
      rintro e w4 ⟨rfl, hd⟩
      have hb4 : Below w.heap.size w w4 := hb3.trans (hd.below.mono hb3.size)
      clear hb3 hd
      rw [decide_eq_true H0.out.2.2.2.2.2.1]
      go_wp2_with fail
      refine (awake05_any w4).mono ?_
      rintro e w5 ⟨rfl, hb5⟩
      go_wp2
      go_ret
      exact ⟨rfl, hb4.trans (hb5.mono hb4.size)⟩
set_option maxHeartbeats 400000 in
theorem walk (x : Int) (A : Option Addr) (n cap : Nat) (p : List UInt8) (w : World) (h0 : 0 ≤ x) (h1 : x ≤ 255) (hA : BS w A n p) (hnc : n ≤ cap) (hcm : cap ≤ maxLen) :
    Calls Try.prog 4 #[.int .u8 x, .slice A n cap] w fun e w' => e = .returned (.bool true) ∧ Below w.heap.size w w' := by
  have e : x = ((UInt8.ofNat x.toNat).toNat : Int) := by rw [UInt8.toNat_ofNat']; omega
  by_cases h2 : x < 1
  · have hg : decide (x < 1) = true := by simp; omega
    clear e
    go_enter Try.func4, Try.ntmps4
    go_wp2_with fail
    refine (awake05_any w).mono ?_
    rintro e w2 ⟨rfl, hb2⟩
    go_wp2
    go_ret
    exact ⟨rfl, hb2⟩
  · have hg : decide (x < 1) = false := by simp; omega
    by_cases h3 : 3 < x
    · have hg2 : decide (3 < x) = true := by simp; omega
      clear e
      go_enter Try.func4, Try.ntmps4
      go_wp2_with fail
      refine (awake05_any w).mono ?_
      rintro e w2 ⟨rfl, hb2⟩
      go_wp2
      go_ret
      exact ⟨rfl, hb2⟩
    · have hg2 : decide (3 < x) = false := by simp; omega
      by_cases h4 : n ≤ 254
      · rw [e]
        exact walk_main _ A n cap p w hA (by omega) (by omega) h4
      · have hg3 : decide ((254 : Int) < (n : Int)) = true := by simp; omega
        clear e
        go_enter Try.func4, Try.ntmps4
        go_wp2_with fail
        refine (awake05_any w).mono ?_
        rintro e w2 ⟨rfl, hb2⟩
        go_wp2
        go_ret
        exact ⟨rfl, hb2⟩

theorem own : ownKnob Try.prog.godebug = none := by kernel_rfl
theorem laidOut : laidOutB Try.prog = true := by kernel_rfl
theorem params_ok : ∀ t ∈ Try.f4.params.toList, Try.prog.readableRec t = true ∧ t < Try.prog.types.size := by
  rw [Try.params4]
  intro t ht
  have ht' : t = 5 ∨ t = 22 := by
    simpa using ht
  rcases ht' with rfl | rfl
  · exact ⟨(show Try.prog.readableRec 5 = true by kernel_rfl), of_decide_eq_true (show decide (5 < Try.prog.types.size) = true by kernel_rfl)⟩
  · exact ⟨(show Try.prog.readableRec 22 = true by kernel_rfl), of_decide_eq_true (show decide (22 < Try.prog.types.size) = true by kernel_rfl)⟩

set_option maxRecDepth 100000 in
theorem contract (H : Type) (enc : TypeId × Value → H) (W : World) (base : Nat) (args : Array Value) (ds gs : List (DataW H)) (before : List MemPlace)
    (hval : ∀ (j : Nat) t v, Try.f4.params[j]? = some t → args[j]? = some v → Value.okWide Try.prog W .any base t v)
    (hW : DataW.Whole enc Try.prog Try.f4.params.toList Rows.stampBackSpec.vars false W args.toList ds gs before) :
    Calls Try.prog 4 args W fun e W' => ∃ v, e = .returned v ∧ Rows.stampBackSpec.post enc Try.prog Try.f4 false true false false W args v W' := by
  have hW' := hW
  obtain ⟨p, q, hA0, hV, rfl, hfz, hnd⟩ := hW
  have hA : DataW.TrodAll enc Try.prog W 0 (fun _ => true) true Try.f4.params.toList args.toList ds p := hA0
  rw [Try.params4] at hA hval
  obtain ⟨v0, vs0, d0, ds0, p0, q0, hargs, rfl, rfl, h0, r0⟩ := trodAll_cons hA
  obtain ⟨v1, vs1, d1, ds1, p1, q1, rfl, rfl, rfl, h1, r1⟩ := trodAll_cons r0
  obtain ⟨rfl, rfl, rfl⟩ := trodAll_nil r1
  obtain rfl : args = #[v0, v1] := by cases args; simp_all
  obtain ⟨rfl, rfl⟩ := trodVars_none hV
  obtain ⟨x0, rfl, rfl, rfl, w0⟩ := open_int Try.underlying5 (hval 0 5 v0 rfl rfl) h0
  have b0 := bounds_u8 w0
  obtain ⟨A1, n1, c1, bs1, rfl, bs1h, nc1, cm1, dd1⟩ := open_bytes Try.underlying22 Try.underlying5 (show Try.prog.cellsOf 5 = 1 by kernel_rfl) (hval 1 22 v1 rfl rfl) h1
  refine (walk x0 A1 n1 c1 bs1 W b0.1 b0.2 bs1h nc1 cm1).mono fun e W' ⟨he, bel⟩ => ?_
  exact ⟨_, he, post_true laidOut Try.underlying4 (show Try.f4.resultTypes = #[4] from rfl) params_ok rfl hW' rfl bel⟩

theorem laid_met (os : Os) : laidMet Try.prog Rows.stampBackRow.laid ((World.holding Try.prog os ⟨#[], #[], []⟩).forCall (fun _ _ => 0) ⟨#[], #[.int .u8 0, .slice none 0 0], []⟩).memory :=
  laidMet_of_run' 8 (by kernel_rfl) (by kernel_rfl)
theorem reads (os : Os) {H : Type} (enc : TypeId × Value → H) : ∃ places, DataW.whole enc Try.prog ((World.holding Try.prog os ⟨#[], #[], []⟩).forCall (fun _ _ => 0) ⟨#[], #[.int .u8 0, .slice none 0 0], []⟩).memory Try.f4.params.toList Rows.stampBackSpec.vars false (#[Value.int .u8 0, Value.slice none 0 0] : Array Value).toList 8 = some ([.lit (.int .u8 0), .nil], [], places) :=
  ⟨[], by kernel_rfl⟩
set_option maxRecDepth 100000 in
theorem lifted (os : Os) (started : os.Started) (H : Type) (enc : TypeId × Value → H) (F : Stop.Interp) :
    ReturnsInHanded {} Try.checked os 4 .any ((OpenSpec.ofChange Rows.stampBackSpec).preRow enc Try.prog Try.f4 Rows.stampBackRow.domain false Rows.stampBackRow.laid) (((OpenSpec.ofChange Rows.stampBackSpec).at F).post enc Try.prog Try.f4 false true false false) := by
  obtain ⟨places, hx⟩ := reads os enc
  refine returnsInHanded_of_row (C := Try.checked) (s := OpenSpec.ofChange Rows.stampBackSpec) own started (by kernel_rfl) Try.func4
    (witness_row_at (enc := enc) (C := Try.checked) false (World.holding Try.prog os ⟨#[], #[], []⟩) #[.int .u8 0, .slice none 0 0] rfl (by kernel_rfl) (by kernel_rfl) (by kernel_rfl)
      (OpenSpec.preRow_of_cond 8 hx (by kernel_rfl) (fun k hk => by cases hk) (by kernel_rfl) (laid_met os))) ?_
  intro W base args ds gs before hval hW _ _ hsz hL _ _
  exact contract H enc W base args ds gs before hval hW
theorem said : Rows.StampBackSaid :=
  OpenClaim.holds_of_cond 4 Try.f4 rfl rfl rfl rfl rfl rfl rfl ⟨rfl, rfl, rfl, rfl, rfl⟩ rfl rfl rfl rfl rfl (by kernel_rfl) Try.func4 (by kernel_rfl)
    (of_decide_eq_true (by kernel_rfl)) (by unfold Func.isWrapper; first | (rw [if_pos (by decide +kernel)]; kernel_rfl) | (rw [if_neg (by decide +kernel)]; exact ⟨rfl, rfl⟩))
    (fun os started H enc _ F => by rw [OpenClaim.pre_eq_preRow]; exact lifted os started H enc F)
#print axioms said
end Go.Proofs.Ytaooimhodoefoaa.stampBack
