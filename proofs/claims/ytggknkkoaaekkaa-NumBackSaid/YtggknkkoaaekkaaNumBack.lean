/- NumBack: what is written is read as it was, whatever stands behind it; what is read has just the bytes that were gone through; no condition. -/
import Derived.Test.YtggknkkoaaekkaaNumRefs
import Derived.Test.YtggknkkoaaekkaaOwn01
import Derived.Test.YtggknkkoaaekkaaLift
import Derived.Deep.RegionHeld3
import Derived.Deep.DeepMust
import Derived.StillTailTactics
namespace Go.Proofs.Ytggknkkoaaekkaa.numBack
open Go.ChangeShapes Go.WideShapes Go.ChangeAt Go.RowKit Mem Lift
set_option linter.unusedVariables false
set_option linter.unusedSimpArgs false

theorem own_cap {w : World} {base : Nat} {e : TypeId} {A : Option Addr} {n c : Nat} {xs : List Value} (h : w.ownsRow base e 1 (.slice A n c) n xs) : n ≤ c ∧ c ≤ maxLen := by
  rcases h.2 with ⟨h, h'⟩ | ⟨g, cap, cur, h, _, _, hnc, hcm, _⟩
  · injection h with _ _ h; subst h; subst h'; simp [maxLen]
  · injection h with _ _ h; subst h; exact ⟨hnc, hcm⟩
theorem lt8 {a : Nat} (h : a < 18446744073709551616) : a < 256 ^ 8 := h
theorem BS.take_ {w : World} {A : Option Addr} {n : Nat} {bs : List UInt8} (hb : BS w A n bs) (j : Nat) (hj : j ≤ n) : BS w A j (bs.take j) := by
  refine ⟨by rw [List.length_take, hb.1]; omega, fun hp => ?_⟩
  obtain ⟨b, off, rfl, hlt, hc⟩ := hb.2 (by omega)
  refine ⟨b, off, rfl, hlt, fun i hi => ?_⟩
  rw [List.length_take] at hi
  rw [hc i (by omega), List.getD_eq_getElem?_getD, List.getD_eq_getElem?_getD, List.getElem?_take, if_pos (by omega)]
section
variable {P : Program} {ops : Array Oper} {Q : Exit → Act → World → Prop} {md : Region.Mode}
theorem any_skip {i d : Nat} {oi : Oper} {fuel : Nat} {listed : Array Bool} {tmps : Array Value} {ds : List Deferred} {w : World} (hi : ops[i]? = some oi)
    (hs : Region.noSelect ops = true) (hf : Region.free md ops listed i = true) (hr : (Region.ready md ops listed).contains i = true)
    (hQ : ∀ c a w, Q (.panic c) (a.put oi.dst undef) w → Q (.panic c) a w) (hd : oi.dst = some d) (hw : Region.wanted oi (yielded ops tmps) = false)
    (h : wpAny P md ops Q fuel (listed.setIfInBounds i true) { tmps := tmps.setIfInBounds d undef, defers := ds } w) : wpAny P md ops Q (fuel + 1) listed { tmps := tmps, defers := ds } w :=
  wpAny_take hi hs hf hr hQ (Or.inr ⟨hw, rfl⟩) (by rw [hd]; exact h)
theorem any_take {i d : Nat} {oi : Oper} {v : Value} {fuel : Nat} {listed : Array Bool} {tmps : Array Value} {ds : List Deferred} {w : World} (hi : ops[i]? = some oi)
    (hs : Region.noSelect ops = true) (hf : Region.free md ops listed i = true) (hr : (Region.ready md ops listed).contains i = true)
    (hQ : ∀ c a w, Q (.panic c) (a.put oi.dst v) w → Q (.panic c) a w) (hd : oi.dst = some d) (hw : Region.wanted oi (yielded ops tmps) = true)
    (hy : ∀ W : World, (execOp (Act.eval { tmps := tmps, defers := ds }) oi).run P W = .ok (.value v) W)
    (h : wpAny P md ops Q fuel (listed.setIfInBounds i true) { tmps := tmps.setIfInBounds d v, defers := ds } w) : wpAny P md ops Q (fuel + 1) listed { tmps := tmps, defers := ds } w :=
  wpAny_take hi hs hf hr hQ (Or.inl ⟨hw, hy⟩) (by rw [hd]; exact h)
end
set_option maxHeartbeats 1000000 in
theorem walk_main (n : Nat) (A B : Option Addr) (m k capa capb : Nat) (bh bs : List UInt8) (w : World) (hn : n < 18446744073709551616) (hA : BS w A m bh) (hB : BS w B k bs) (hm : m ≤ 1000) (hk : k ≤ 1000) (hkc : k ≤ capb) (hcm : capb ≤ maxLen) :
    Calls Try.prog 7 #[.int .u64 n, .slice A m capa, .slice B k capb] w fun e w' => e = .returned (.bool true) ∧ Below w.heap.size w w' := by
  unfold maxLen at hcm
  have hg1 : decide ((1000 : Int) < (m : Int)) = false := by simp; omega
  have hg2 : decide ((1000 : Int) < (k : Int)) = false := by simp; omega
  obtain ⟨i0, hi0, hz0, hz1, hz2⟩ := info_parts ninfo8
  have HI := Lib.hid (And.intro hi0 (And.intro hz0 (And.intro hz1 hz2)))
  clear hi0 hz0 hz1 hz2
  have hl := Num.shortB_length_le n
  have htake := Num.take_short n bh hn
  have hwide := Num.unwide_wide 8 n (lt8 hn)
  have H0 := Lib.hid (And.intro hA (And.intro hB (And.intro htake hwide)))
  clear hA hB htake hwide
  generalize hL : (Num.shortB n).length = L at *
  have HL := Lib.hid hL
  clear hL
  go_enter Try.func7, Try.ntmps7
  go_wp2_with fail
  refine (short_any n w hn).mono ?_
  rintro e w1 ⟨v, rfl, hown, hb1⟩
  rw [HL.out] at hown
  obtain ⟨A1, c1, rfl⟩ := own_slice hown
  have HO1 := Lib.hid hown
  clear hown
  go_wp2_with fail
  refine (own01_any A1 L c1 _ w1 (BS.of_own HO1.out) (by omega)).mono ?_
  rintro e w2 ⟨v, rfl, hown, hb2'⟩
  have hb2 : Below w.heap.size w w2 := hb1.trans (hb2'.mono hb1.size)
  rw [HL.out] at hown
  obtain ⟨A2, c2, rfl⟩ := own_slice hown
  have HO2 := Lib.hid hown
  clear hown
  have hs1 := hb1.size
  have hs2 := hb2'.size
  go_wp2_with (at_builtin; refine wpList_append_bs _ rfl _ _ 23 rfl w.heap.size 5 i0 Try.underlying23 HI.out.1 HI.out.2.1 HI.out.2.2.1 HI.out.2.2.2 (.slice A2 L c2) L (u8s (Num.shortB n)) rfl (own_base HO2.out hs1) A m capa bh rfl (H0.out.1.below hb2) (by omega) hb2.size ?_; intro v' w3 hown hg3 hat3)
  have hb3 : Below w.heap.size w w3 := hb2.grown hg3 hb2.size (fun q hq => Nat.le_trans hs1 (HO2.out.lt q hq).1)
  rw [← u8s_append] at hown
  obtain ⟨A3, c3, rfl⟩ := own_slice hown
  have HO3 := Lib.hid (BS.of_own hown)
  clear hown hg3 hat3 hb2 hb2' hb1 hs1 hs2
  go_wp2_with fail
  refine (takeShort_any A3 (L + m) c3 _ w3 HO3.out (by omega)).mono ?_
  rintro e w4 ⟨rfl, rfl⟩
  rw [H0.out.2.2.1]
  go_wp2_with fail
  refine (wide_ok n 8 w3 hn (by omega) (by omega) (lt8 hn)).mono ?_
  rintro e w4 ⟨v, rfl, hown, hb4'⟩
  have hb4 : Below w.heap.size w w4 := hb3.trans (hb4'.mono hb3.size)
  rw [Num.wideB_length] at hown
  obtain ⟨A4, c4, rfl⟩ := own_slice hown
  have HO4 := Lib.hid hown
  clear hown hb3 hb4'
  go_wp2_with fail
  refine (own01_any A4 8 c4 _ w4 (BS.of_own HO4.out) (by omega)).mono ?_
  rintro e w5 ⟨v, rfl, hown, hb5'⟩
  have hb5 : Below w.heap.size w w5 := hb4.trans (hb5'.mono hb4.size)
  rw [Num.wideB_length] at hown
  obtain ⟨A5, c5, rfl⟩ := own_slice hown
  have HO5 := Lib.hid hown
  clear hown
  have hs4 := hb4.size
  go_wp2_with (at_builtin; refine wpList_append_bs _ rfl _ _ 23 rfl w.heap.size 5 i0 Try.underlying23 HI.out.1 HI.out.2.1 HI.out.2.2.1 HI.out.2.2.2 (.slice A5 8 c5) 8 (u8s (Num.wideB n 8)) rfl (own_base HO5.out hs4) A m capa bh rfl (H0.out.1.below hb5) (by omega) hb5.size ?_; intro v' w6 hown hg6 hat6)
  have hb6 : Below w.heap.size w w6 := hb5.grown hg6 hb5.size (fun q hq => Nat.le_trans hs4 (HO5.out.lt q hq).1)
  rw [← u8s_append] at hown
  obtain ⟨A6, c6, rfl⟩ := own_slice hown
  have hcap6 := own_cap hown
  have HO6 := Lib.hid (And.intro (BS.of_own hown) hcap6)
  clear hown hg6 hat6 hb4 hb5 hb5' hs4 hcap6
  go_wp2_with fail
  refine (takeWide_ok A6 (8 + m) c6 8 _ w6 HO6.out.1 HO6.out.2.1 HO6.out.2.2 (by omega) (by omega) (by omega)).mono ?_
  rintro e w7 ⟨rfl, rfl⟩
  rw [List.take_append_of_le_length (by rw [Num.wideB_length]; omega), List.take_of_length_le (by rw [Num.wideB_length]; omega), H0.out.2.2.2]
  have ne1 : ((n : Int) != (n : Int)) = false := by simp
  have ne2 : ((L : Int) != (L : Int)) = false := by simp
  go_wp2_with fail
  refine (own01_any B k capb bs w6 (H0.out.2.1.below hb6) (by omega)).mono ?_
  rintro e w7 ⟨v, rfl, hown, hb7'⟩
  have hb7 : Below w.heap.size w w7 := hb6.trans (hb7'.mono hb6.size)
  rw [H0.out.2.1.1] at hown
  obtain ⟨A7, c7, rfl⟩ := own_slice hown
  have HO7 := Lib.hid (BS.of_own hown)
  clear hown hb6 hb7'
  go_wp2_with fail
  refine (takeShort_any A7 k c7 bs w7 HO7.out (by omega)).mono ?_
  rintro e w8 ⟨rfl, rfl⟩
  have hback := Num.take_back bs
  have hbd := Num.takeGo_bounds bs 0 0 (by omega)
  rw [show Num.takeGo 0 0 bs = Num.takeShort bs from rfl] at hbd
  generalize Num.takeShort bs = r at *
  obtain ⟨r0, r1, r2⟩ := r
  obtain ⟨hbd0, hbd1, hbd2⟩ := hbd
  simp only [Nat.zero_add] at hbd0 hbd1 hbd2
  rw [H0.out.2.1.1] at hbd1
  by_cases hr : r2 = 0
  · subst hr
    obtain ⟨hk1, hz, hsh⟩ := hback r0 r1 rfl
    have HS := Lib.hid hsh
    clear hsh hback
    have hle : decide ((r1 : Int) ≤ (k : Int)) = true := by simp; omega
    have hlz := Num.shortB_length_le r0
    have hbd7 : Below w.heap.size w w7.drew := hb7.drew
    have hBk : BS w7.drew B k bs := H0.out.2.1.below hbd7
    have hBr := BS.take_ hBk r1 (by omega)
    have HB7 := Lib.hid (And.intro hBr hbd7)
    clear hBr hBk hbd7 hb7
    go_wp2_with fail
    have hrc : (r1 : Int) ≤ (capb : Int) := by omega
    go_region_held3 (fun _ => True) (trivial) (first
      | (go_at_call 11; go_must ((with_reducible refine (short_any r0 w7.drew hz).mono ?_); rintro e w9 ⟨v, rfl, hown, hb9⟩; obtain ⟨A9, c9, rfl⟩ := own_slice hown; have HO9 := Lib.hid (And.intro hown hb9); clear hown hb9))
      | (go_at_call 16; go_must ((with_reducible refine (same_any A9 B _ r1 c9 capb _ (bs.take r1) w9 (BS.of_own HO9.out.1) (HB7.out.1.below HO9.out.2) (by omega) (by omega)).mono ?_); rintro e w10 ⟨rfl, hd⟩; rw [decide_eq_true HS.out]; have hb10 := hd.below; clear hd))
      | (go_at_call 12; go_must ((with_reducible refine (awake01_any w10).mono ?_); rintro e w11 ⟨rfl, hb11⟩)))
    go_wp2
    go_ret
    refine ⟨rfl, ?_⟩
    have s1 := HB7.out.2.size
    have s2 := HO9.out.2.size
    have s3 := hb10.size
    exact ((HB7.out.2.trans (HO9.out.2.mono s1)).trans (hb10.mono (by omega))).trans (hb11.mono (by omega))
  · have hne : ((r2 : Int) != 0) = true := by rw [bne_iff_ne]; omega
    clear hback
    go_wp2_with fail
    have HB7 := Lib.hid hb7
    clear hb7
    refine wp_region_any (by kernel_rfl) ?_
    change wpAny _ _ _ _ _ _ _ (World.drew _)
    refine any_take (i := 0) (d := 84) (v := .int .i64 (r2 : Int)) rfl (by kernel_rfl) (by kernel_rfl) (by kernel_rfl) (fun _ _ _ h => h) rfl (by rfl) (fun W => by first | (go_simp; done) | (go_simp; with_reducible rfl)) ?_
    simp only [List.setIfInBounds_toArray, List.set_cons_succ, List.set_cons_zero]
    refine any_take (i := 1) (d := 85) (v := .bool true) rfl (by kernel_rfl) (by kernel_rfl) (by kernel_rfl) (fun _ _ _ h => h) rfl (by rfl) (fun W => by first | (go_simp; done) | (go_simp; with_reducible rfl)) ?_
    simp only [List.setIfInBounds_toArray, List.set_cons_succ, List.set_cons_zero]
    refine any_take (i := 2) (d := 86) (v := .bool true) rfl (by kernel_rfl) (by kernel_rfl) (by kernel_rfl) (fun _ _ _ h => h) rfl (by rfl) (fun W => by first | (go_simp; done) | (go_simp; with_reducible rfl)) ?_
    simp only [List.setIfInBounds_toArray, List.set_cons_succ, List.set_cons_zero]
    refine any_skip (i := 3) (d := 87) rfl (by kernel_rfl) (by kernel_rfl) (by kernel_rfl) (fun _ _ _ h => h) rfl (by rfl) ?_
    simp only [List.setIfInBounds_toArray, List.set_cons_succ, List.set_cons_zero]
    refine any_skip (i := 4) (d := 88) rfl (by kernel_rfl) (by kernel_rfl) (by kernel_rfl) (fun _ _ _ h => h) rfl (by rfl) ?_
    simp only [List.setIfInBounds_toArray, List.set_cons_succ, List.set_cons_zero]
    refine any_skip (i := 5) (d := 89) rfl (by kernel_rfl) (by kernel_rfl) (by kernel_rfl) (fun _ _ _ h => h) rfl (by rfl) ?_
    simp only [List.setIfInBounds_toArray, List.set_cons_succ, List.set_cons_zero]
    refine any_skip (i := 6) (d := 90) rfl (by kernel_rfl) (by kernel_rfl) (by kernel_rfl) (fun _ _ _ h => h) rfl (by rfl) ?_
    simp only [List.setIfInBounds_toArray, List.set_cons_succ, List.set_cons_zero]
    refine any_skip (i := 7) (d := 91) rfl (by kernel_rfl) (by kernel_rfl) (by kernel_rfl) (fun _ _ _ h => h) rfl (by rfl) ?_
    simp only [List.setIfInBounds_toArray, List.set_cons_succ, List.set_cons_zero]
    refine any_skip (i := 8) (d := 92) rfl (by kernel_rfl) (by kernel_rfl) (by kernel_rfl) (fun _ _ _ h => h) rfl (by rfl) ?_
    simp only [List.setIfInBounds_toArray, List.set_cons_succ, List.set_cons_zero]
    refine any_skip (i := 9) (d := 93) rfl (by kernel_rfl) (by kernel_rfl) (by kernel_rfl) (fun _ _ _ h => h) rfl (by rfl) ?_
    simp only [List.setIfInBounds_toArray, List.set_cons_succ, List.set_cons_zero]
    refine any_skip (i := 10) (d := 94) rfl (by kernel_rfl) (by kernel_rfl) (by kernel_rfl) (fun _ _ _ h => h) rfl (by rfl) ?_
    simp only [List.setIfInBounds_toArray, List.set_cons_succ, List.set_cons_zero]
    refine any_skip (i := 11) (d := 95) rfl (by kernel_rfl) (by kernel_rfl) (by kernel_rfl) (fun _ _ _ h => h) rfl (by rfl) ?_
    simp only [List.setIfInBounds_toArray, List.set_cons_succ, List.set_cons_zero]
    refine any_skip (i := 12) (d := 96) rfl (by kernel_rfl) (by kernel_rfl) (by kernel_rfl) (fun _ _ _ h => h) rfl (by rfl) ?_
    simp only [List.setIfInBounds_toArray, List.set_cons_succ, List.set_cons_zero]
    refine any_skip (i := 13) (d := 97) rfl (by kernel_rfl) (by kernel_rfl) (by kernel_rfl) (fun _ _ _ h => h) rfl (by rfl) ?_
    simp only [List.setIfInBounds_toArray, List.set_cons_succ, List.set_cons_zero]
    refine any_skip (i := 14) (d := 98) rfl (by kernel_rfl) (by kernel_rfl) (by kernel_rfl) (fun _ _ _ h => h) rfl (by rfl) ?_
    simp only [List.setIfInBounds_toArray, List.set_cons_succ, List.set_cons_zero]
    refine any_take (i := 15) (d := 99) (v := .bool true) rfl (by kernel_rfl) (by kernel_rfl) (by kernel_rfl) (fun _ _ _ h => h) rfl (by rfl) (fun W => by first | (go_simp; done) | (go_simp; with_reducible rfl)) ?_
    simp only [List.setIfInBounds_toArray, List.set_cons_succ, List.set_cons_zero]
    refine any_take (i := 16) (d := 100) (v := .bool true) rfl (by kernel_rfl) (by kernel_rfl) (by kernel_rfl) (fun _ _ _ h => h) rfl (by rfl) (fun W => by first | (go_simp; done) | (go_simp; with_reducible rfl)) ?_
    simp only [List.setIfInBounds_toArray, List.set_cons_succ, List.set_cons_zero]
    refine wpAny_ready (rs := [17]) (by kernel_rfl) (by simp) ?_
    refine AllReady.cons rfl (fun K hK => ?_) AllReady.nil
    go_simp
    refine (awake01_any w7.drew).mono ?_
    rintro e w11 ⟨rfl, hb11⟩
    refine hK _ _ ?_
    clear hK K
    refine any_take (i := 18) (d := 102) (v := .bool true) rfl (by kernel_rfl) (by kernel_rfl) (by kernel_rfl) (fun _ _ _ h => h) rfl (by rfl) (fun W => by first | (go_simp; done) | (go_simp; with_reducible rfl)) ?_
    simp only [List.setIfInBounds_toArray, List.set_cons_succ, List.set_cons_zero]
    refine any_take (i := 19) (d := 6) (v := .bool true) rfl (by kernel_rfl) (by kernel_rfl) (by kernel_rfl) (fun _ _ _ h => h) rfl (by rfl) (fun W => by first | (go_simp; done) | (go_simp; with_reducible rfl)) ?_
    simp only [List.setIfInBounds_toArray, List.set_cons_succ, List.set_cons_zero]
    refine wpAny_done (by kernel_rfl) ?_ _
    go_wp2
    go_ret
    exact ⟨rfl, HB7.out.drew.trans (hb11.mono HB7.out.size)⟩
set_option maxHeartbeats 400000 in
theorem walk (x : Int) (A : Option Addr) (m capa : Nat) (bh : List UInt8) (B : Option Addr) (k capb : Nat) (bs : List UInt8) (w : World) (h0 : 0 ≤ x) (h1 : x ≤ 18446744073709551615) (hA : BS w A m bh) (hnc : m ≤ capa) (hcm : capa ≤ maxLen) (hB : BS w B k bs) (hnc2 : k ≤ capb) (hcm2 : capb ≤ maxLen) :
    Calls Try.prog 7 #[.int .u64 x, .slice A m capa, .slice B k capb] w fun e w' => e = .returned (.bool true) ∧ Below w.heap.size w w' := by
  obtain ⟨n, rfl⟩ := Int.eq_ofNat_of_zero_le h0
  by_cases h2 : m ≤ 1000
  · by_cases h3 : k ≤ 1000
    · exact walk_main n A B m k capa capb bh bs w (by omega) hA hB h2 h3 hnc2 hcm2
    · have hg : decide ((1000 : Int) < (m : Int)) = false := by simp; omega
      have hg2 : decide ((1000 : Int) < (k : Int)) = true := by simp; omega
      go_enter Try.func7, Try.ntmps7
      go_wp2_with fail
      refine (awake01_any w).mono ?_
      rintro e w2 ⟨rfl, hb2⟩
      go_wp2
      go_ret
      exact ⟨rfl, hb2⟩
  · have hg : decide ((1000 : Int) < (m : Int)) = true := by simp; omega
    go_enter Try.func7, Try.ntmps7
    go_wp2_with fail
    refine (awake01_any w).mono ?_
    rintro e w2 ⟨rfl, hb2⟩
    go_wp2
    go_ret
    exact ⟨rfl, hb2⟩

theorem own : ownKnob Try.prog.godebug = none := by kernel_rfl
theorem laidOut : laidOutB Try.prog = true := by kernel_rfl
theorem params_ok : ∀ t ∈ Try.f7.params.toList, Try.prog.readableRec t = true ∧ t < Try.prog.types.size := by
  rw [Try.params7]
  intro t ht
  have ht' : t = 22 ∨ t = 23 := by
    simpa using ht
  rcases ht' with rfl | rfl
  · exact ⟨(show Try.prog.readableRec 22 = true by kernel_rfl), of_decide_eq_true (show decide (22 < Try.prog.types.size) = true by kernel_rfl)⟩
  · exact ⟨(show Try.prog.readableRec 23 = true by kernel_rfl), of_decide_eq_true (show decide (23 < Try.prog.types.size) = true by kernel_rfl)⟩

set_option maxRecDepth 100000 in
theorem contract (H : Type) (enc : TypeId × Value → H) (W : World) (base : Nat) (args : Array Value) (ds gs : List (DataW H)) (before : List MemPlace)
    (hval : ∀ (j : Nat) t v, Try.f7.params[j]? = some t → args[j]? = some v → Value.okWide Try.prog W .any base t v)
    (hW : DataW.Whole enc Try.prog Try.f7.params.toList Rows.numBackSpec.vars false W args.toList ds gs before) :
    Calls Try.prog 7 args W fun e W' => ∃ v, e = .returned v ∧ Rows.numBackSpec.post enc Try.prog Try.f7 false true false false W args v W' := by
  have hW' := hW
  obtain ⟨p, q, hA0, hV, rfl, hfz, hnd⟩ := hW
  have hA : DataW.TrodAll enc Try.prog W 0 (fun _ => true) true Try.f7.params.toList args.toList ds p := hA0
  rw [Try.params7] at hA hval
  obtain ⟨v0, vs0, d0, ds0, p0, q0, hargs, rfl, rfl, h0, r0⟩ := trodAll_cons hA
  obtain ⟨v1, vs1, d1, ds1, p1, q1, rfl, rfl, rfl, h1, r1⟩ := trodAll_cons r0
  obtain ⟨v2, vs2, d2, ds2, p2, q2, rfl, rfl, rfl, h2, r2⟩ := trodAll_cons r1
  obtain ⟨rfl, rfl, rfl⟩ := trodAll_nil r2
  obtain rfl : args = #[v0, v1, v2] := by cases args; simp_all
  obtain ⟨rfl, rfl⟩ := trodVars_none hV
  obtain ⟨x0, rfl, rfl, rfl, w0⟩ := open_int Try.underlying22 (hval 0 22 v0 rfl rfl) h0
  have b0 := bounds_u64 w0
  obtain ⟨A1, n1, c1, bs1, rfl, bs1h, nc1, cm1, dd1⟩ := open_bytes Try.underlying23 Try.underlying5 (show Try.prog.cellsOf 5 = 1 by kernel_rfl) (hval 1 23 v1 rfl rfl) h1
  obtain ⟨A2, n2, c2, bs2, rfl, bs2h, nc2, cm2, dd2⟩ := open_bytes Try.underlying23 Try.underlying5 (show Try.prog.cellsOf 5 = 1 by kernel_rfl) (hval 2 23 v2 rfl rfl) h2
  refine (walk x0 A1 n1 c1 bs1 A2 n2 c2 bs2 W b0.1 b0.2 bs1h nc1 cm1 bs2h nc2 cm2).mono fun e W' ⟨he, bel⟩ => ?_
  exact ⟨_, he, post_true laidOut Try.underlying4 (show Try.f7.resultTypes = #[4] from rfl) params_ok rfl hW' rfl bel⟩

theorem laid_met (os : Os) : laidMet Try.prog Rows.numBackRow.laid ((World.holding Try.prog os ⟨#[], #[], []⟩).forCall (fun _ _ => 0) ⟨#[], #[.int .u64 0, .slice none 0 0, .slice none 0 0], []⟩).memory :=
  laidMet_of_run' 8 (by kernel_rfl) (by kernel_rfl)
theorem reads (os : Os) {H : Type} (enc : TypeId × Value → H) : ∃ places, DataW.whole enc Try.prog ((World.holding Try.prog os ⟨#[], #[], []⟩).forCall (fun _ _ => 0) ⟨#[], #[.int .u64 0, .slice none 0 0, .slice none 0 0], []⟩).memory Try.f7.params.toList Rows.numBackSpec.vars false (#[Value.int .u64 0, Value.slice none 0 0, Value.slice none 0 0] : Array Value).toList 8 = some ([.lit (.int .u64 0), .nil, .nil], [], places) :=
  ⟨[], by kernel_rfl⟩
set_option maxRecDepth 100000 in
theorem lifted (os : Os) (started : os.Started) (H : Type) (enc : TypeId × Value → H) (F : Stop.Interp) :
    ReturnsInHanded {} Try.checked os 7 .any ((OpenSpec.ofChange Rows.numBackSpec).preRow enc Try.prog Try.f7 Rows.numBackRow.domain false Rows.numBackRow.laid) (((OpenSpec.ofChange Rows.numBackSpec).at F).post enc Try.prog Try.f7 false true false false) := by
  obtain ⟨places, hx⟩ := reads os enc
  refine returnsInHanded_of_row (C := Try.checked) (s := OpenSpec.ofChange Rows.numBackSpec) own started (by kernel_rfl) Try.func7
    (witness_row_at (enc := enc) (C := Try.checked) false (World.holding Try.prog os ⟨#[], #[], []⟩) #[.int .u64 0, .slice none 0 0, .slice none 0 0] rfl (by kernel_rfl) (by kernel_rfl) (by kernel_rfl)
      (OpenSpec.preRow_of_cond 8 hx (by kernel_rfl) (fun k hk => by cases hk) (by kernel_rfl) (laid_met os))) ?_
  intro W base args ds gs before hval hW _ _ hsz hL _ _
  exact contract H enc W base args ds gs before hval hW
theorem said : Rows.NumBackSaid :=
  OpenClaim.holds_of_cond 7 Try.f7 rfl rfl rfl rfl rfl rfl rfl ⟨rfl, rfl, rfl, rfl, rfl⟩ rfl rfl rfl rfl rfl (by kernel_rfl) Try.func7 (by kernel_rfl)
    (of_decide_eq_true (by kernel_rfl)) (by unfold Func.isWrapper; first | (rw [if_pos (by decide +kernel)]; kernel_rfl) | (rw [if_neg (by decide +kernel)]; exact ⟨rfl, rfl⟩))
    (fun os started H enc _ F => by rw [OpenClaim.pre_eq_preRow]; exact lifted os started H enc F)
#print axioms said
end Go.Proofs.Ytggknkkoaaekkaa.numBack
