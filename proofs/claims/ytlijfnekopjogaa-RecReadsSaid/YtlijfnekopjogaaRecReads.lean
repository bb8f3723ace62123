/- Whatever bytes there are, they are a record just where the document says so; what is decoded has just these bytes; no condition. -/
import Derived.Test.YtlijfnekopjogaaRecRefJ
import Derived.Test.YtlijfnekopjogaaLift
import Derived.Test.YtlijfnekopjogaaRows
namespace Go.Proofs.Ytlijfnekopjogaa.recReads
open Go.ChangeMaps Go.ChangeShapes Go.WideShapes Go.ChangeAt Go.RowKit Mem Lift Rc
set_option maxRecDepth 100000
set_option linter.unusedVariables false
set_option linter.unusedSimpArgs false

/-- what is decoded is small, and has just these bytes -/
theorem dec_ways (bs : List UInt8) : ∃ m e, Rc.dec bs = (m, e) ∧ SmM m ∧ (e = 0 → Rc.enc m = (bs, 0)) := by
  obtain ⟨m, e, h⟩ : ∃ m e, Rc.dec bs = (m, e) := ⟨_, _, rfl⟩
  refine ⟨m, e, h, ?_, fun he => ?_⟩
  · by_cases h0 : e = 0
    · subst h0
      have g := dec_back h
      have hk : Rc.kindOk m.kind = true := (may_parts g.1).1
      unfold Rc.dec at h
      rw [if_neg (by omega)] at h
      unfold Rc.decR at h
      split at h
      · injection h with h1 h2
        cases h2
      · unfold Rc.decF at h
        split at h
        · injection h with h1 h2
          omega
        · split at h
          · injection h with h1 h2
            have hkk : Rc.kindOk (nC.dec ⟨bs, 0⟩).1 = true ∨ (nC.dec ⟨bs, 0⟩).1 = 0 := by
              rw [← h1, dec_kind] at hk
              exact .inl hk
            rw [← h1]
            exact smm_dec _ hkk _
          · injection h with h1 h2
            cases h2
    · have hz := dec_not (b := bs) (by rw [h]; exact h0)
      rw [h] at hz
      injection hz with hz _
      rw [hz]
      exact smm0 0
  · subst he
    obtain ⟨h1, h2, h3⟩ := dec_back h
    unfold Rc.enc
    rw [if_pos h1, if_neg (by rw [h2]; omega), h2]
set_option maxHeartbeats 8000000 in
theorem walk (A : Option Addr) (n cap : Nat) (bs : List UInt8) (w : World) (hbs : BS w A n bs) (hnc : n ≤ cap) (hm : cap ≤ maxLen) :
    Calls Try.prog 4 #[.slice A n cap] w fun e w' => e = .returned (.bool true) ∧ Below w.heap.size w w' := by
  unfold maxLen at hm
  by_cases h5 : 5000 < n
  · have hd5 : decide ((5000 : Int) < (n : Int)) = true := by simp; omega
    clear hbs
    go_enter Try.func4, Try.ntmps4
    go_wp2_with fail
    refine (awake07_any _).mono ?_
    rintro e w1 ⟨rfl, hb1⟩
    have H1 := Lib.hid hb1
    clear hb1
    go_wp2
    go_ret
    exact ⟨rfl, H1.out⟩
  · have hd5 : decide ((5000 : Int) < (n : Int)) = false := by simp; omega
    obtain ⟨m, ec, hdc, hsm, hen⟩ := dec_ways bs
    obtain ⟨i0, hi0, hz0, hz1, hz2⟩ := info_parts ninfo8
    have HI := Lib.hid (And.intro hi0 (And.intro hz0 (And.intro hz1 hz2)))
    have ho0 : (w.alloc (.cells #[] 5)).ownsRow w.heap.size 5 1 (.slice (some ⟨w.heap.size, 0, none⟩) 0 0) 0 [] := World.ownsRow_made w #[] 0 (Nat.le_refl _) (by simp [maxLen]) (by simp)
    have H := Lib.hid (And.intro hbs (And.intro hdc (And.intro hsm (And.intro hen (And.intro ho0 (hbs.below ((Below.refl _ w).alloc (Nat.le_refl _) (.cells #[] 5))))))))
    have hl := hbs.1
    clear hbs hdc hsm hen hi0 hz0 hz1 hz2 ho0
    go_enter Try.func4, Try.ntmps4
    go_upto_region 3 with fail
    go_wp2_with (at_builtin; refine wpList_append_bs _ rfl (.tmp 14) (.tmp 15) 33 rfl w.heap.size 5 i0 Try.underlying33 HI.out.1 HI.out.2.1 HI.out.2.2.1 HI.out.2.2.2 (.slice (some ⟨w.heap.size, 0, none⟩) 0 0) 0 [] rfl H.out.2.2.2.2.1 A n cap bs rfl H.out.2.2.2.2.2 (by omega) (by simp) ?_; intro v1 w1 hown1 hg1 hat1; obtain ⟨A1, c1, rfl⟩ := own_slice hown1; have H1 := Lib.hid (And.intro hown1 (((Below.refl _ w).alloc (Nat.le_refl _) (.cells #[] 5)).grown hg1 (by simp) (by simp [Value.ownBlock]))); clear hown1 hg1 hat1)
    have hdec1 := rdecode_any A1 n c1 bs w1 (by have := H1.out.1; rw [Nat.zero_add, List.nil_append] at this; exact BS.of_own this) (by omega)
    rw [H.out.2.1] at hdec1
    have HD1 := Lib.hid hdec1
    clear hdec1
    refine (show Calls Try.prog 17 #[.slice A1 n c1] w1 _ from HD1.out.mono ?_)
    rintro e w2 ⟨z, rfl, hzm, hokz, _, hb2⟩
    dsimp only at hzm ⊢
    have hbz : Blk (w2.alloc (.cells #[.int .i64 0, .int .i64 0, .int .i64 0, .int .i64 0, .string ⟨#[]⟩, .bool false, .string ⟨#[]⟩, .bool false, .string ⟨#[]⟩, .int .i64 0, .slice none 0 0, .slice none 0 0, .slice none 0 0, .slice none 0 0, .slice none 0 0, .slice none 0 0] 30)) w2.heap.size 30 zCells := Blk.new _ _ _
    have H2 := Lib.hid (And.intro hzm (And.intro hokz (H1.out.2.trans (hb2.mono H1.out.2.size))))
    clear hzm hokz hb2
    go_upto_region 4 with (refine wpList_store_rec z (by rfl) _ _ (by rfl) (by rfl) (by rfl) hbz (by rfl) ?_; intro w3 hB3 hF3 hS3)
    have hb3 : Below w2.heap.size w2 w3 := ((Below.refl _ w2).alloc (Nat.le_refl _) _).trans (hF3.below (by simp) (fun j hj => by have e : j = w2.heap.size := hj; omega))
    have H3 := Lib.hid (And.intro hB3 (And.intro (H2.out.2.1.below hb3) (H2.out.2.2.trans (hb3.mono H2.out.2.2.size))))
    clear hB3 hF3 hS3 hb3 hbz
    go_wp2_with fail
    have hdec2 := frdec_any A n cap bs w3 (H.out.1.below H3.out.2.2) hnc hm (by omega)
    rw [H.out.2.1] at hdec2
    have HD2 := Lib.hid hdec2
    clear hdec2
    refine HD2.out.mono ?_
    rintro e w4 ⟨s, rfl, hss, hoks, _, hb4⟩
    dsimp only at hss ⊢
    have hbs4 : Blk (w4.alloc (.cells #[.int .i64 0, .int .i64 0, .int .i64 0, .int .i64 0, .string ⟨#[]⟩, .bool false, .string ⟨#[]⟩, .bool false, .string ⟨#[]⟩, .int .i64 0, .slice none 0 0, .slice none 0 0, .slice none 0 0, .slice none 0 0, .slice none 0 0, .slice none 0 0] 30)) w4.heap.size 30 zCells := Blk.new _ _ _
    have H4 := Lib.hid (And.intro hss (And.intro hoks (And.intro (H3.out.2.2.trans (hb4.mono H3.out.2.2.size)) (And.intro (H3.out.1.below hb4 H3.out.1.lt) (H3.out.2.1.below hb4)))))
    clear hss hoks hb4
    go_upto_region 5 with (refine wpList_store_rec s (by rfl) _ _ (by rfl) (by rfl) (by rfl) hbs4 (by rfl) ?_; intro w5 hB5 hF5 hS5)
    have hb5 : Below w4.heap.size w4 w5 := ((Below.refl _ w4).alloc (Nat.le_refl _) _).trans (hF5.below (by simp) (fun j hj => by have e : j = w4.heap.size := hj; omega))
    have hz5 := H4.out.2.2.2.1.below hb5 H4.out.2.2.2.1.lt
    have H5 := Lib.hid (And.intro (H4.out.2.1.below hb5) (And.intro (H4.out.2.2.2.2.below hb5) (And.intro (H4.out.2.2.1.trans (hb5.mono H4.out.2.2.1.size)) hz5)))
    clear hF5 hS5 hb5 hbs4
    go_wp2_with (first | (refine wpList_load_rec' _ (by rfl) (by rfl) (by rfl) hz5 ?_) | (refine wpList_load_rec' _ (by rfl) (by rfl) (by rfl) hB5 ?_))
    refine (same07_eq z s _ H5.out.2.1 H5.out.1 (small_of (by rw [H2.out.1]; exact H.out.2.2.1)) (by rw [H2.out.1, H4.out.1])).mono ?_
    rintro e w6 ⟨rfl, hb6⟩
    have hz6 := hz5.below hb6 hz5.lt
    have H6 := Lib.hid (And.intro (H5.out.2.2.1.trans (hb6.mono H5.out.2.2.1.size)) (H5.out.2.1.below hb6))
    clear hb6 hz5 hB5
    rcases Nat.eq_zero_or_pos ec with rfl | hec
    · have HEN := Lib.hid (H.out.2.2.2.1 rfl)
      go_wp2_with (refine wpList_load_rec' _ (by rfl) (by rfl) (by rfl) hz6 ?_)
      have hen := rencode_any z w6 H6.out.2 (small_of (by rw [H2.out.1]; exact H.out.2.2.1))
      rw [H2.out.1, HEN.out] at hen
      have HE := Lib.hid hen
      clear hen hz6
      refine HE.out.mono ?_
      rintro e w7 ⟨v, rfl, ho7, hb7⟩
      dsimp only at ho7 ⊢
      obtain ⟨A7, c7, rfl⟩ := own_slice ho7
      rw [hl] at ho7 ⊢
      have H7 := Lib.hid (And.intro (BS.of_own ho7) (H6.out.1.trans (hb7.mono H6.out.1.size)))
      clear ho7 hb7
      go_wp2_with fail
      refine (same_any A7 A n n c7 cap bs bs _ H7.out.1 (H.out.1.below H7.out.2) (by omega) (by omega)).mono ?_
      rintro e w8 ⟨rfl, hd8⟩
      rw [decide_eq_true (show bs = bs from rfl)]
      have H8 := Lib.hid (H7.out.2.trans (hd8.below.mono H7.out.2.size))
      clear hd8
      go_wp2_with fail
      refine (awake07_any _).mono ?_
      rintro e w9 ⟨rfl, hb9⟩
      have H9 := Lib.hid (H8.out.trans (hb9.mono H8.out.size))
      clear hb9
      go_wp2
      go_ret
      exact ⟨rfl, H9.out⟩
    · have hne : ((ec : Int) == 0) = false := by rw [beq_eq_false_iff_ne]; omega
      clear hz6
      go_wp2_with fail
      refine (awake07_any _).mono ?_
      rintro e w9 ⟨rfl, hb9⟩
      have H9 := Lib.hid (H6.out.1.trans (hb9.mono H6.out.1.size))
      clear hb9
      go_wp2
      go_ret
      exact ⟨rfl, H9.out⟩

theorem own : ownKnob Try.prog.godebug = none := by kernel_rfl
theorem laidOut : laidOutB Try.prog = true := by kernel_rfl
theorem params_ok : ∀ t ∈ Try.f4.params.toList, Try.prog.readableRec t = true ∧ t < Try.prog.types.size := by
  rw [Try.params4]
  intro t ht
  have ht' : t = 33 := by
    simpa using ht
  subst ht'
  exact ⟨(show Try.prog.readableRec 33 = true by kernel_rfl), of_decide_eq_true (show decide (33 < Try.prog.types.size) = true by kernel_rfl)⟩

set_option maxRecDepth 100000 in
theorem contract (H : Type) (enc : TypeId × Value → H) (W : World) (base : Nat) (args : Array Value) (ds gs : List (DataW H)) (before : List MemPlace)
    (hval : ∀ (j : Nat) t v, Try.f4.params[j]? = some t → args[j]? = some v → Value.okWide Try.prog W .any base t v)
    (hW : DataW.Whole enc Try.prog Try.f4.params.toList Rows.recReadsSpec.vars false W args.toList ds gs before) :
    Calls Try.prog 4 args W fun e W' => ∃ v, e = .returned v ∧ Rows.recReadsSpec.post enc Try.prog Try.f4 false true false false W args v W' := by
  have hW' := hW
  obtain ⟨p, q, hA0, hV, rfl, hfz, hnd⟩ := hW
  have hA : DataW.TrodAll enc Try.prog W 0 (fun _ => true) true Try.f4.params.toList args.toList ds p := hA0
  rw [Try.params4] at hA hval
  obtain ⟨v0, vs0, d0, ds0, p0, q0, hargs, rfl, rfl, h0, r0⟩ := trodAll_cons hA
  obtain ⟨rfl, rfl, rfl⟩ := trodAll_nil r0
  obtain rfl : args = #[v0] := by cases args; simp_all
  obtain ⟨rfl, rfl⟩ := trodVars_none hV
  obtain ⟨A0, n0, c0, bs0, rfl, bs0h, nc0, cm0, dd0⟩ := open_bytes Try.underlying33 Try.underlying5 (show Try.prog.cellsOf 5 = 1 by kernel_rfl) (hval 0 33 v0 rfl rfl) h0
  refine (walk A0 n0 c0 bs0 W bs0h nc0 cm0).mono fun e W' ⟨he, bel⟩ => ?_
  exact ⟨_, he, post_true laidOut Try.underlying4 (show Try.f4.resultTypes = #[4] from rfl) params_ok rfl hW' rfl bel⟩

theorem laid_met (os : Os) : laidMet Try.prog Rows.recReadsRow.laid ((World.holding Try.prog os ⟨#[], #[], []⟩).forCall (fun _ _ => 0) ⟨#[], #[.slice none 0 0], []⟩).memory :=
  laidMet_of_run' 8 (by kernel_rfl) (by kernel_rfl)
theorem reads (os : Os) {H : Type} (enc : TypeId × Value → H) : ∃ places, DataW.whole enc Try.prog ((World.holding Try.prog os ⟨#[], #[], []⟩).forCall (fun _ _ => 0) ⟨#[], #[.slice none 0 0], []⟩).memory Try.f4.params.toList Rows.recReadsSpec.vars false (#[Value.slice none 0 0] : Array Value).toList 8 = some ([.nil], [], places) :=
  ⟨[], by kernel_rfl⟩
set_option maxRecDepth 100000 in
theorem lifted (os : Os) (started : os.Started) (H : Type) (enc : TypeId × Value → H) (F : Stop.Interp) :
    ReturnsInHanded {} Try.checked os 4 .any ((OpenSpec.ofChange Rows.recReadsSpec).preRow enc Try.prog Try.f4 Rows.recReadsRow.domain false Rows.recReadsRow.laid) (((OpenSpec.ofChange Rows.recReadsSpec).at F).post enc Try.prog Try.f4 false true false false) := by
  obtain ⟨places, hx⟩ := reads os enc
  refine returnsInHanded_of_row (C := Try.checked) (s := OpenSpec.ofChange Rows.recReadsSpec) own started (by kernel_rfl) Try.func4
    (witness_row_at (enc := enc) (C := Try.checked) false (World.holding Try.prog os ⟨#[], #[], []⟩) #[.slice none 0 0] rfl (by kernel_rfl) (by kernel_rfl) (by kernel_rfl)
      (OpenSpec.preRow_of_cond 8 hx (by kernel_rfl) (fun k hk => by cases hk) (by kernel_rfl) (laid_met os))) ?_
  intro W base args ds gs before hval hW _ _ hsz hL _ _
  exact contract H enc W base args ds gs before hval hW
theorem said : Rows.RecReadsSaid :=
  OpenClaim.holds_of_cond 4 Try.f4 rfl rfl rfl rfl rfl rfl rfl ⟨rfl, rfl, rfl, rfl, rfl⟩ rfl rfl rfl rfl rfl (by kernel_rfl) Try.func4 (by kernel_rfl)
    (of_decide_eq_true (by kernel_rfl)) (by unfold Func.isWrapper; first | (rw [if_pos (by decide +kernel)]; kernel_rfl) | (rw [if_neg (by decide +kernel)]; exact ⟨rfl, rfl⟩))
    (fun os started H enc _ F => by rw [OpenClaim.pre_eq_preRow]; exact lifted os started H enc F)
#print axioms said
end Go.Proofs.Ytlijfnekopjogaa.recReads
