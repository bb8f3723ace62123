/- StampOpens: whatever sector there is, it is opened as the document says, or refused; what is opened is, wrapped with its stamp, just this sector; no condition. -/
import Derived.Test.YtaooimhodoefoaaStampRefs
import Derived.Test.YtaooimhodoefoaaOwn05
import Derived.Test.YtaooimhodoefoaaLift
namespace Go.Proofs.Ytaooimhodoefoaa.stampOpens
open Go.ChangeShapes Go.WideShapes Go.ChangeAt Go.RowKit Mem Lift
set_option linter.unusedVariables false

theorem openR_len (s : List UInt8) : (Stamp.openR s).1.length ≤ 254 ∧ (Stamp.openR s).2 ≤ 50 := by
  unfold Stamp.openR
  split
  · simp
  · split
    · simp only; rw [Stamp.openB_length s (by omega)]; omega
    · simp
theorem openR_ok (s : List UInt8) (h : (Stamp.openR s).2 = 0) : s.length = 256 ∧ Stamp.openOk s = true ∧ (Stamp.openR s).1 = Stamp.openB s := by
  unfold Stamp.openR at *
  split at h
  · simp at h
  · split at h
    · rename_i h1 h2
      rw [if_neg h1, if_pos h2]
      exact ⟨by omega, h2, rfl⟩
    · simp at h
set_option maxRecDepth 100000 in
set_option maxHeartbeats 1000000 in
theorem walk_main (A : Option Addr) (n cap : Nat) (s : List UInt8) (w : World) (hA : BS w A n s) (hn : n ≤ 1000) (hnc : n ≤ cap) (hcm : cap ≤ 9223372036854775807) :
    Calls Try.prog 3 #[.slice A n cap] w fun e w' => e = .returned (.bool true) ∧ Below w.heap.size w w' := by
  have hg1 : decide ((1000 : Int) < (n : Int)) = false := by simp; omega
  have H0 := Lib.hid hA
  clear hA
  have hr := openR_len s
  have hok := openR_ok s
  go_enter Try.func3, Try.ntmps3
  go_wp2_with fail
  refine (own05_any A n cap s w H0.out (by omega)).mono ?_
  rintro e w1 ⟨v, rfl, hown, hb1⟩
  rw [H0.out.1] at hown
  obtain ⟨A1, c1, rfl⟩ := own_slice hown
  have hcp := own_cap hown
  have HO1 := Lib.hid hown
  clear hown
  go_wp2_with fail
  refine (open_any A1 n c1 s w1 (BS.of_own HO1.out) (by omega) hcp.1 hcp.2).mono ?_
  rintro e w2 ⟨A2, c2, rfl, hB2, hc2, hm2, hb2'⟩
  have hb2 : Below w.heap.size w w2 := hb1.trans (hb2'.mono hb1.size)
  have HB2 := Lib.hid hB2
  clear hB2 hb1 hb2'
  go_wp2_with fail
  refine (refOpen_any A n cap s w2 (H0.out.below hb2) (by omega) hnc hcm).mono ?_
  rintro e w3 ⟨A3, c3, rfl, hB3, hc3, hm3, hb3'⟩
  have hb3 : Below w.heap.size w w3 := hb2.trans (hb3'.mono hb2.size)
  have HB3 := Lib.hid (And.intro hB3 (HB2.out.below hb3'))
  clear hB3 hb2 hb3' HB2
  generalize Stamp.openR s = r at *
  obtain ⟨r0, r1⟩ := r
  simp only at hr hc2 hc3 hok
  obtain ⟨hr0, hr1⟩ := hr
  have HK := Lib.hid hok
  clear hok
  have e1 : ((r1 : Int) != (r1 : Int)) = false := by simp
  go_wp2_with fail
  refine (same_any A2 A3 _ _ c2 c3 _ _ w3 HB3.out.2 HB3.out.1 (by omega) (by omega)).mono ?_
  rintro e w4 ⟨rfl, hd⟩
  have hb4 : Below w.heap.size w w4 := hb3.trans (hd.below.mono hb3.size)
  have HB4 := Lib.hid (HB3.out.2.below hd.below)
  clear hb3 hd
  rw [decide_eq_true rfl]
  by_cases hz : r1 = 0
  · subst hz
    obtain ⟨hl, hoo, hrr⟩ := HK.out rfl
    have hn256 : n = 256 := by rw [← H0.out.1]; exact hl
    subst hn256
    obtain ⟨b, off, rfl, _, hcell⟩ := (H0.out.below hb4).2 (by omega)
    have d0 := hcell 0 (by omega)
    rw [Nat.add_zero] at d0
    have hrange : 1 ≤ (s.getD 0 0).toNat ∧ (s.getD 0 0).toNat ≤ 3 := by
      have := of_decide_eq_true hoo
      exact this.2
    have hback := Stamp.wrapB_openB s hl hoo
    have hwr : Stamp.wrapR (s.getD 0 0) r0 = (s, 0) := by
      unfold Stamp.wrapR
      rw [if_neg (by omega), if_neg (by omega), hrr, hback]
    generalize s.getD 0 0 = x at *
    have HW := Lib.hid (And.intro hwr hl)
    clear hwr hl hoo hrr hback hcell
    go_wp2_with fail
    refine (wrap_any x A2 r0.length c2 r0 w4 HB4.out (by omega)).mono ?_
    rw [HW.out.1]
    rintro e w5 ⟨A5, c5, rfl, hB5, hc5, hm5, hb5'⟩
    simp only [HW.out.2] at hB5 hc5 ⊢
    have hb5 : Below w.heap.size w w5 := hb4.trans (hb5'.mono hb4.size)
    have HB5 := Lib.hid hB5
    clear hB5 hb4 hb5' d0
    go_wp2_with fail
    refine (same_any A5 _ 256 256 c5 cap s s w5 HB5.out (H0.out.below hb5) (by omega) (by omega)).mono ?_
    rintro e w6 ⟨rfl, hd⟩
    have hb6 : Below w.heap.size w w6 := hb5.trans (hd.below.mono hb5.size)
    clear hb5 hd
    rw [decide_eq_true rfl]
    go_wp2_with fail
    refine (awake05_any w6).mono ?_
    rintro e w7 ⟨rfl, hb7⟩
    go_wp2
    go_ret
    exact ⟨rfl, hb6.trans (hb7.mono hb6.size)⟩
  · have hz2 : ((r1 : Int) == 0) = false := by rw [beq_eq_false_iff_ne]; omega
    go_wp2_with fail
    refine (awake05_any w4).mono ?_
    rintro e w7 ⟨rfl, hb7⟩
    go_wp2
    go_ret
    exact ⟨rfl, hb4.trans (hb7.mono hb4.size)⟩
set_option maxHeartbeats 400000 in
theorem walk (A : Option Addr) (n cap : Nat) (s : List UInt8) (w : World) (hA : BS w A n s) (hnc : n ≤ cap) (hcm : cap ≤ maxLen) :
    Calls Try.prog 3 #[.slice A n cap] w fun e w' => e = .returned (.bool true) ∧ Below w.heap.size w w' := by
  by_cases h2 : n ≤ 1000
  · exact walk_main A n cap s w hA h2 hnc (by simp only [maxLen] at hcm; omega)
  · have hg : decide ((1000 : Int) < (n : Int)) = true := by simp; omega
    go_enter Try.func3, Try.ntmps3
    go_wp2_with fail
    refine (awake05_any w).mono ?_
    rintro e w2 ⟨rfl, hb2⟩
    go_wp2
    go_ret
    exact ⟨rfl, hb2⟩

theorem own : ownKnob Try.prog.godebug = none := by kernel_rfl
theorem laidOut : laidOutB Try.prog = true := by kernel_rfl
theorem params_ok : ∀ t ∈ Try.f3.params.toList, Try.prog.readableRec t = true ∧ t < Try.prog.types.size := by
  rw [Try.params3]
  intro t ht
  have ht' : t = 22 := by
    simpa using ht
  subst ht'
  exact ⟨(show Try.prog.readableRec 22 = true by kernel_rfl), of_decide_eq_true (show decide (22 < Try.prog.types.size) = true by kernel_rfl)⟩

set_option maxRecDepth 100000 in
theorem contract (H : Type) (enc : TypeId × Value → H) (W : World) (base : Nat) (args : Array Value) (ds gs : List (DataW H)) (before : List MemPlace)
    (hval : ∀ (j : Nat) t v, Try.f3.params[j]? = some t → args[j]? = some v → Value.okWide Try.prog W .any base t v)
    (hW : DataW.Whole enc Try.prog Try.f3.params.toList Rows.stampOpensSpec.vars false W args.toList ds gs before) :
    Calls Try.prog 3 args W fun e W' => ∃ v, e = .returned v ∧ Rows.stampOpensSpec.post enc Try.prog Try.f3 false true false false W args v W' := by
  have hW' := hW
  obtain ⟨p, q, hA0, hV, rfl, hfz, hnd⟩ := hW
  have hA : DataW.TrodAll enc Try.prog W 0 (fun _ => true) true Try.f3.params.toList args.toList ds p := hA0
  rw [Try.params3] at hA hval
  obtain ⟨v0, vs0, d0, ds0, p0, q0, hargs, rfl, rfl, h0, r0⟩ := trodAll_cons hA
  obtain ⟨rfl, rfl, rfl⟩ := trodAll_nil r0
  obtain rfl : args = #[v0] := by cases args; simp_all
  obtain ⟨rfl, rfl⟩ := trodVars_none hV
  obtain ⟨A0, n0, c0, bs0, rfl, bs0h, nc0, cm0, dd0⟩ := open_bytes Try.underlying22 Try.underlying5 (show Try.prog.cellsOf 5 = 1 by kernel_rfl) (hval 0 22 v0 rfl rfl) h0
  refine (walk A0 n0 c0 bs0 W bs0h nc0 cm0).mono fun e W' ⟨he, bel⟩ => ?_
  exact ⟨_, he, post_true laidOut Try.underlying4 (show Try.f3.resultTypes = #[4] from rfl) params_ok rfl hW' rfl bel⟩

theorem laid_met (os : Os) : laidMet Try.prog Rows.stampOpensRow.laid ((World.holding Try.prog os ⟨#[], #[], []⟩).forCall (fun _ _ => 0) ⟨#[], #[.slice none 0 0], []⟩).memory :=
  laidMet_of_run' 8 (by kernel_rfl) (by kernel_rfl)
theorem reads (os : Os) {H : Type} (enc : TypeId × Value → H) : ∃ places, DataW.whole enc Try.prog ((World.holding Try.prog os ⟨#[], #[], []⟩).forCall (fun _ _ => 0) ⟨#[], #[.slice none 0 0], []⟩).memory Try.f3.params.toList Rows.stampOpensSpec.vars false (#[Value.slice none 0 0] : Array Value).toList 8 = some ([.nil], [], places) :=
  ⟨[], by kernel_rfl⟩
set_option maxRecDepth 100000 in
theorem lifted (os : Os) (started : os.Started) (H : Type) (enc : TypeId × Value → H) (F : Stop.Interp) :
    ReturnsInHanded {} Try.checked os 3 .any ((OpenSpec.ofChange Rows.stampOpensSpec).preRow enc Try.prog Try.f3 Rows.stampOpensRow.domain false Rows.stampOpensRow.laid) (((OpenSpec.ofChange Rows.stampOpensSpec).at F).post enc Try.prog Try.f3 false true false false) := by
  obtain ⟨places, hx⟩ := reads os enc
  refine returnsInHanded_of_row (C := Try.checked) (s := OpenSpec.ofChange Rows.stampOpensSpec) own started (by kernel_rfl) Try.func3
    (witness_row_at (enc := enc) (C := Try.checked) false (World.holding Try.prog os ⟨#[], #[], []⟩) #[.slice none 0 0] rfl (by kernel_rfl) (by kernel_rfl) (by kernel_rfl)
      (OpenSpec.preRow_of_cond 8 hx (by kernel_rfl) (fun k hk => by cases hk) (by kernel_rfl) (laid_met os))) ?_
  intro W base args ds gs before hval hW _ _ hsz hL _ _
  exact contract H enc W base args ds gs before hval hW
theorem said : Rows.StampOpensSaid :=
  OpenClaim.holds_of_cond 3 Try.f3 rfl rfl rfl rfl rfl rfl rfl ⟨rfl, rfl, rfl, rfl, rfl⟩ rfl rfl rfl rfl rfl (by kernel_rfl) Try.func3 (by kernel_rfl)
    (of_decide_eq_true (by kernel_rfl)) (by unfold Func.isWrapper; first | (rw [if_pos (by decide +kernel)]; kernel_rfl) | (rw [if_neg (by decide +kernel)]; exact ⟨rfl, rfl⟩))
    (fun os started H enc _ F => by rw [OpenClaim.pre_eq_preRow]; exact lifted os started H enc F)
#print axioms said
end Go.Proofs.Ytaooimhodoefoaa.stampOpens
