/- PagePlaces: a key's page is the document's; no condition. -/
import Derived.Test.YtfcmlfcpgboigaaPageSet0
import Derived.Test.YtfcmlfcpgboigaaFold
import Derived.Test.YtfcmlfcpgboigaaLift
import Derived.ChangeMaps5
namespace Go.Proofs.Ytfcmlfcpgboigaa.pagePlaces
open Go.ChangeMaps Go.ChangeShapes Go.WideShapes Go.ChangeAt Go.RowKit Mem Lift
set_option linter.unusedVariables false
set_option linter.unusedSimpArgs false
set_option maxRecDepth 100000

def placeI (l : List UInt8) (x : Int) : Int := if x < 1 then 0 else (Fd.fold x.toNat l : Nat)
theorem fold_both (A : Option Addr) (n cap : Nat) (bs : List UInt8) (x : Int) (w : World) (hbs : BS w A n bs) (hn : n ≤ 100) (hx : x ≤ 9223372036854775807) :
    (Calls Try.prog 77 #[.slice A n cap, .int .i64 x] w fun e w' => e = .returned (.int .i64 (placeI bs x)) ∧ Below w.heap.size w w') ∧
    Calls Try.prog 78 #[.slice A n cap, .int .i64 x] w fun e w' => e = .returned (.int .i64 (placeI bs x)) ∧ Below w.heap.size w w' := by
  unfold placeI
  by_cases h : x < 1
  · rw [if_pos h]
    exact ⟨(fold_none A n cap x w h).mono fun e w' ⟨h1, h2⟩ => ⟨h1, by subst h2; exact Below.refl _ _⟩, (refFold_none A n cap x w h).mono fun e w' ⟨h1, h2⟩ => ⟨h1, by subst h2; exact Below.refl _ _⟩⟩
  · rw [if_neg h]
    obtain ⟨m, rfl⟩ := Int.eq_ofNat_of_zero_le (show 0 ≤ x by omega)
    rw [Int.toNat_natCast]
    exact ⟨fold_any A n cap bs m w hbs (by omega) (by omega) (by omega), (refFold_any A n cap bs m w hbs (by omega) (by omega) (by omega)).mono fun e w' ⟨h1, h2⟩ => ⟨h1, by subst h2; exact Below.refl _ _⟩⟩
set_option maxHeartbeats 1000000 in
theorem place_any (l : List UInt8) (x : Int) (w : World) (hl : l.length ≤ 100) (hx : x ≤ 9223372036854775807) : Calls Try.prog 39 #[.string ⟨l.toArray⟩, .int .i64 x] w fun e w' => e = .returned (.int .i64 (placeI l x)) ∧ Below w.heap.size w w' := by
  have hcv := fun W => conv_str l W
  unfold str at hcv
  have H := Lib.hid (And.intro hl hx)
  clear hl hx
  go_enter Try.func39, Try.ntmps39
  go_wp2_with fail
  refine (fold_both _ l.length _ l x _ (bytesWorld_bs w 5 l) H.out.1 H.out.2).1.mono ?_
  rintro e w1 ⟨rfl, hb1⟩
  have hb := (bytesWorld_below w 5 ⟨l.toArray⟩)
  have HB := Lib.hid (hb.trans (hb1.mono hb.size))
  clear hb1 hb
  go_wp2_with fail
  go_ret
  exact ⟨rfl, HB.out⟩
set_option maxHeartbeats 1000000 in
theorem rplace_any (l : List UInt8) (x : Int) (w : World) (hl : l.length ≤ 100) (hx : x ≤ 9223372036854775807) : Calls Try.prog 40 #[.string ⟨l.toArray⟩, .int .i64 x] w fun e w' => e = .returned (.int .i64 (placeI l x)) ∧ Below w.heap.size w w' := by
  have hcv := fun W => conv_str l W
  unfold str at hcv
  have H := Lib.hid (And.intro hl hx)
  clear hl hx
  go_enter Try.func40, Try.ntmps40
  go_wp2_with fail
  refine (fold_both _ l.length _ l x _ (bytesWorld_bs w 5 l) H.out.1 H.out.2).2.mono ?_
  rintro e w1 ⟨rfl, hb1⟩
  have hb := (bytesWorld_below w 5 ⟨l.toArray⟩)
  have HB := Lib.hid (hb.trans (hb1.mono hb.size))
  clear hb1 hb
  go_wp2_with fail
  go_ret
  exact ⟨rfl, HB.out⟩
set_option maxHeartbeats 2000000 in
theorem walk (s : ByteArray) (x : Int) (w : World) (hs : s.size ≤ maxLen) (h0 : -9223372036854775808 ≤ x) (h1 : x ≤ 9223372036854775807) :
    Calls Try.prog 8 #[.string s, .int .i64 x] w fun e w' => e = .returned (.bool true) ∧ Below w.heap.size w w' := by
  by_cases hl : s.size ≤ 100
  · have hl2 : s.data.toList.length ≤ 100 := by simpa using hl
    have hp := fun W => place_any s.data.toList x W hl2 h1
    have hq := fun W => rplace_any s.data.toList x W hl2 h1
    rw [show (⟨s.data.toList.toArray⟩ : ByteArray) = s by cases s; simp] at hp hq
    have hd : decide (100 < (s.size : Int)) = false := by simp; omega
    obtain ⟨y, hy⟩ : ∃ y, placeI s.data.toList x = y := ⟨_, rfl⟩
    have hy0 : 0 ≤ y := by rw [← hy]; unfold placeI; split <;> omega
    have hways : decide (x < 1) = true ∧ y = 0 ∨ decide (x < 1) = false ∧ decide (y < x) = true := by
      by_cases hx : x < 1
      · exact .inl ⟨by simpa using hx, by rw [← hy]; unfold placeI; rw [if_pos hx]⟩
      · refine .inr ⟨by simpa using hx, ?_⟩
        have := Fd.fold_lt x.toNat s.data.toList (by omega)
        rw [← hy]
        unfold placeI
        rw [if_neg hx]
        simp
        omega
    rw [hy] at hp hq
    have H := Lib.hid (And.intro hp hq)
    clear hp hq hy hl hl2 hs h0 h1
    rcases hways with ⟨a1, rfl⟩ | ⟨a1, a2⟩
    all_goals
      go_enter Try.func8, Try.ntmps8
      go_wp2_with fail
      refine (H.out.1 w).mono ?_
      rintro e w1 ⟨rfl, hb1⟩
      have H1 := Lib.hid hb1
      clear hb1
      go_wp2_with fail
      refine (H.out.2 w1).mono ?_
      rintro e w2 ⟨rfl, hb2⟩
      have H2 := Lib.hid (H1.out.trans (hb2.mono H1.out.size))
      clear hb2
      go_wp2_with fail
      refine (awake10_any w2).mono ?_
      rintro e w3 ⟨rfl, hb3⟩
      have H3 := Lib.hid (H2.out.trans (hb3.mono H2.out.size))
      clear hb3
      go_wp2_with fail
      go_ret
      exact ⟨rfl, H3.out⟩
  · have hd : decide (100 < (s.size : Int)) = true := by simp; omega
    go_enter Try.func8, Try.ntmps8
    go_wp2_with fail
    refine (awake10_any w).mono ?_
    rintro e w3 ⟨rfl, hb3⟩
    have H3 := Lib.hid hb3
    clear hb3
    go_wp2_with fail
    go_ret
    exact ⟨rfl, H3.out⟩

theorem own : ownKnob Try.prog.godebug = none := by kernel_rfl
theorem laidOut : laidOutB Try.prog = true := by kernel_rfl
theorem params_ok : ∀ t ∈ Try.f8.params.toList, Try.prog.readableRec t = true ∧ t < Try.prog.types.size := by
  rw [Try.params8]
  intro t ht
  have ht' : t = 9 ∨ t = 3 := by
    simpa using ht
  rcases ht' with rfl | rfl
  · exact ⟨(show Try.prog.readableRec 9 = true by kernel_rfl), of_decide_eq_true (show decide (9 < Try.prog.types.size) = true by kernel_rfl)⟩
  · exact ⟨(show Try.prog.readableRec 3 = true by kernel_rfl), of_decide_eq_true (show decide (3 < Try.prog.types.size) = true by kernel_rfl)⟩

set_option maxRecDepth 100000 in
theorem contract (H : Type) (enc : TypeId × Value → H) (W : World) (base : Nat) (args : Array Value) (ds gs : List (DataW H)) (before : List MemPlace)
    (hval : ∀ (j : Nat) t v, Try.f8.params[j]? = some t → args[j]? = some v → Value.okWide Try.prog W .any base t v)
    (hW : DataW.Whole enc Try.prog Try.f8.params.toList Rows.pagePlacesSpec.vars false W args.toList ds gs before) :
    Calls Try.prog 8 args W fun e W' => ∃ v, e = .returned v ∧ Rows.pagePlacesSpec.post enc Try.prog Try.f8 false true false false W args v W' := by
  have hW' := hW
  obtain ⟨p, q, hA0, hV, rfl, hfz, hnd⟩ := hW
  have hA : DataW.TrodAll enc Try.prog W 0 (fun _ => true) true Try.f8.params.toList args.toList ds p := hA0
  rw [Try.params8] at hA hval
  obtain ⟨v0, vs0, d0, ds0, p0, q0, hargs, rfl, rfl, h0, r0⟩ := trodAll_cons hA
  obtain ⟨v1, vs1, d1, ds1, p1, q1, rfl, rfl, rfl, h1, r1⟩ := trodAll_cons r0
  obtain ⟨rfl, rfl, rfl⟩ := trodAll_nil r1
  obtain rfl : args = #[v0, v1] := by cases args; simp_all
  obtain ⟨rfl, rfl⟩ := trodVars_none hV
  obtain ⟨x0, rfl, rfl, rfl, sw0⟩ := open_string Try.underlying9 (hval 0 9 v0 rfl rfl) h0
  obtain ⟨x1, rfl, rfl, rfl, w1⟩ := open_int Try.underlying3 (hval 1 3 v1 rfl rfl) h1
  have b1 := bounds_i64 w1
  refine (walk x0 x1 W sw0 b1.1 b1.2).mono fun e W' ⟨he, bel⟩ => ?_
  exact ⟨_, he, post_true laidOut Try.underlying4 (show Try.f8.resultTypes = #[4] from rfl) params_ok rfl hW' rfl bel⟩

theorem laid_met (os : Os) : laidMet Try.prog Rows.pagePlacesRow.laid ((World.holding Try.prog os ⟨#[], #[], []⟩).forCall (fun _ _ => 0) ⟨#[], #[.string ⟨#[]⟩, .int .i64 0], []⟩).memory :=
  laidMet_of_run' 8 (by kernel_rfl) (by kernel_rfl)
theorem reads (os : Os) {H : Type} (enc : TypeId × Value → H) : ∃ places, DataW.whole enc Try.prog ((World.holding Try.prog os ⟨#[], #[], []⟩).forCall (fun _ _ => 0) ⟨#[], #[.string ⟨#[]⟩, .int .i64 0], []⟩).memory Try.f8.params.toList Rows.pagePlacesSpec.vars false (#[Value.string ⟨#[]⟩, Value.int .i64 0] : Array Value).toList 8 = some ([.lit (.string []), .lit (.int .i64 0)], [], places) :=
  ⟨[], by kernel_rfl⟩
set_option maxRecDepth 100000 in
theorem lifted (os : Os) (started : os.Started) (H : Type) (enc : TypeId × Value → H) (F : Stop.Interp) :
    ReturnsInHanded {} Try.checked os 8 .any ((OpenSpec.ofChange Rows.pagePlacesSpec).preRow enc Try.prog Try.f8 Rows.pagePlacesRow.domain false Rows.pagePlacesRow.laid) (((OpenSpec.ofChange Rows.pagePlacesSpec).at F).post enc Try.prog Try.f8 false true false false) := by
  obtain ⟨places, hx⟩ := reads os enc
  refine returnsInHanded_of_row (C := Try.checked) (s := OpenSpec.ofChange Rows.pagePlacesSpec) own started (by kernel_rfl) Try.func8
    (witness_row_at (enc := enc) (C := Try.checked) false (World.holding Try.prog os ⟨#[], #[], []⟩) #[.string ⟨#[]⟩, .int .i64 0] rfl (by kernel_rfl) (by kernel_rfl) (by kernel_rfl)
      (OpenSpec.preRow_of_cond 8 hx (by kernel_rfl) (fun k hk => by cases hk) (by kernel_rfl) (laid_met os))) ?_
  intro W base args ds gs before hval hW _ _ hsz hL _ _
  exact contract H enc W base args ds gs before hval hW
theorem said : Rows.PagePlacesSaid :=
  OpenClaim.holds_of_cond 8 Try.f8 rfl rfl rfl rfl rfl rfl rfl ⟨rfl, rfl, rfl, rfl, rfl⟩ rfl rfl rfl rfl rfl (by kernel_rfl) Try.func8 (by kernel_rfl)
    (of_decide_eq_true (by kernel_rfl)) (by unfold Func.isWrapper; first | (rw [if_pos (by decide +kernel)]; kernel_rfl) | (rw [if_neg (by decide +kernel)]; exact ⟨rfl, rfl⟩))
    (fun os started H enc _ F => by rw [OpenClaim.pre_eq_preRow]; exact lifted os started H enc F)
#print axioms said
end Go.Proofs.Ytfcmlfcpgboigaa.pagePlaces
