/- PageOwn: whoever writes into a page that was handed in, or answered, changes no other one; no condition. -/
import Derived.Test.YtfcmlfcpgboigaaPagePut
import Derived.Test.YtfcmlfcpgboigaaPageCopy
import Derived.Test.YtfcmlfcpgboigaaPageOpen
import Derived.Test.YtfcmlfcpgboigaaPageMaths
import Derived.Test.YtfcmlfcpgboigaaLift
import Derived.ChangeMaps5
namespace Go.Proofs.Ytfcmlfcpgboigaa.pageOwn
open Go.ChangeMaps Go.ChangeShapes Go.WideShapes Go.ChangeAt Go.RowKit Mem Lift
set_option linter.unusedVariables false
set_option linter.unusedSimpArgs false
set_option maxRecDepth 100000

abbrev pgCells (lsn : Int) (A : Option Addr) (n c : Nat) : Array Value := #[.int .i64 lsn, .slice A n c]
theorem great_not {l : List Pg.C} (h : Pg.great l = false) : l.length ≤ 20 := by
  unfold Pg.great at h
  rw [Bool.or_eq_false_iff] at h
  simpa using h.1
theorem own_none {w : World} {base n c : Nat} {e : TypeId} {size : Nat} {A : Option Addr} {xs : List Value} (h : w.ownsRow base e size (.slice A n c) n xs) : A = none → n = 0 ∧ c = 0 := by
  intro hA
  rcases h.2 with ⟨e, h0⟩ | ⟨g, cap, cur, e, _⟩
  · injection e with _ _ e; exact ⟨h0, e⟩
  · injection e with e; rw [hA] at e; cases e
/-- what a Set answers has short texts -/
theorem set_small {lsn0 lsn : Int} {l : List Pg.C} {key : ByteArray} {has : Bool} {data : ByteArray} : (∀ x ∈ (Pg.set lsn0 l lsn key has data).2.1, x.key.size ≤ 9223372036854775807 ∧ x.data.size ≤ 9223372036854775807) ∧ (Pg.set lsn0 l lsn key has data).2.1.length ≤ 4 := by
  unfold Pg.set
  by_cases hb : Pg.bad lsn0 l lsn key has data
  · rw [if_pos hb]
    exact ⟨fun x hx => (by cases hx), by simp⟩
  · rw [if_neg hb]
    cases hro : Pg.room l key with
    | false => exact ⟨fun x hx => (by cases hx), by simp⟩
    | true =>
      have hm := Pg.may_put hb hro
      obtain ⟨h1, _, _, h4⟩ := Pg.may_parts hm
      refine ⟨fun x hx => ?_, h4⟩
      have := Pg.fits_sizes (Pg.rise_fits _ _ h1 x hx)
      omega
theorem set_ways (lsn0 lsn : Int) (l : List Pg.C) (key : ByteArray) (has : Bool) (data : ByteArray) : (Pg.set lsn0 l lsn key has data).2.2 = 0 ∨ (Pg.set lsn0 l lsn key has data).2.2 ≠ 0 ∧ (Pg.set lsn0 l lsn key has data).2.1 = [] := by
  unfold Pg.set
  by_cases hb : Pg.bad lsn0 l lsn key has data
  · rw [if_pos hb]; exact .inr ⟨by simp, rfl⟩
  · rw [if_neg hb]
    cases Pg.room l key
    · exact .inr ⟨by simp, rfl⟩
    · exact .inl rfl
set_option maxHeartbeats 16000000 in
theorem walk (lsn : Int) (A : Option Addr) (n c : Nat) (l : List Pg.C) (a : Int) (key : ByteArray) (has : Bool) (data : ByteArray) (w : World)
    (hl : ST cellK w A n l) (hnc : n ≤ c) (hcm : c ≤ maxLen) (hl1 : -9223372036854775808 ≤ lsn) (hl2 : lsn ≤ 9223372036854775807) (ha1 : -9223372036854775808 ≤ a) (ha2 : a ≤ 9223372036854775807) (hkm : key.size ≤ maxLen) (hdm : data.size ≤ maxLen) :
    Calls Try.prog 4 #[pVal lsn A n c, .int .i64 a, .string key, vVal has data] w fun e w' => e = .returned (.bool true) ∧ Below w.heap.size w w' := by
  have hb0 : Below w.heap.size w ((w.alloc (.cells (pgCells lsn A n c) 24)).alloc (.cells #[.bool has, .string data] 26)) := ((Below.refl _ _).alloc (Nat.le_refl _) _).alloc (by simp) _
  have hk0 := (Blk.new w 24 (pgCells lsn A n c)).alloc (.cells #[.bool has, .string data] 26)
  have hv0 := Blk.new (w.alloc (.cells (pgCells lsn A n c) 24)) 26 #[.bool has, .string data]
  simp only [World.size_alloc] at hv0
  have H := Lib.hid (And.intro hb0 (And.intro hk0 (And.intro hv0 (And.intro hl hl.len))))
  clear hb0 hk0 hv0 hl
  go_enter Try.func4, Try.ntmps4
  go_wp2_with fail
  generalize hW0 : (w.alloc (.cells (pgCells lsn A n c) 24)).alloc (.cells #[.bool has, .string data] 26) = W0 at *
  clear hW0
  refine (great10_any lsn A n c l W0 (H.out.2.2.2.1.below H.out.1)).mono ?_
  rintro e w1 ⟨rfl, hb1⟩
  have hv1 := H.out.2.2.1.below hb1 H.out.2.2.1.lt
  have v0 : w1.cell? ⟨w.heap.size + 1, 0, none⟩ = some (.bool has) := hv1.cell 0
  have v1 : w1.cell? ⟨w.heap.size + 1, 1, none⟩ = some (.string data) := hv1.cell 1
  have H1 := Lib.hid (And.intro (H.out.2.1.below hb1 H.out.2.1.lt) (And.intro hv1 (H.out.1.trans (hb1.mono H.out.1.size))))
  clear hb1 hv1
  cases hg : Pg.great l with
  | true =>
    clear hg
    go_wp2_with fail
    refine (awake10_any w1).mono ?_
    rintro e w2 ⟨rfl, hb2⟩
    have H2 := Lib.hid (H1.out.2.2.trans (hb2.mono H1.out.2.2.size))
    clear hb2
    go_wp2_with fail
    go_ret
    exact ⟨rfl, H2.out⟩
  | false =>
    have hm20 : n ≤ 20 := by rw [← H.out.2.2.2.2]; exact great_not hg
    clear hg
    go_wp2_with fail
    refine (refKey_any key w1).mono ?_
    rintro e w2 ⟨rfl, hw2⟩
    obtain rfl : w1 = w2 := hw2.symm
    cases hky : Pg.keyOk key with
    | false =>
      clear hky
      go_wp2_with fail
      refine (awake10_any w1).mono ?_
      rintro e w2 ⟨rfl, hb2⟩
      have H2 := Lib.hid (H1.out.2.2.trans (hb2.mono H1.out.2.2.size))
      clear hb2
      go_wp2_with fail
      go_ret
      exact ⟨rfl, H2.out⟩
    | true =>
      have hks : key.size ≤ 16 := by
        unfold Pg.keyOk at hky
        simp only [Bool.and_eq_true, decide_eq_true_eq] at hky
        exact hky.2
      clear hky
      go_wp2_with fail
      refine (refValue_any has data w1).mono ?_
      rintro e w2 ⟨rfl, hb2⟩
      have hk2 := H1.out.1.below hb2 H1.out.1.lt
      have hv2 := H1.out.2.1.below hb2 H1.out.2.1.lt
      have c0 : w2.cell? ⟨w.heap.size, 0, none⟩ = some (.int .i64 lsn) := hk2.cell 0
      have c1 : w2.cell? ⟨w.heap.size, 1, none⟩ = some (.slice A n c) := hk2.cell 1
      have H2 := Lib.hid (And.intro hk2 (And.intro hv2 (H1.out.2.2.trans (hb2.mono H1.out.2.2.size))))
      clear hb2 hk2 hv2 v0 v1
      cases hva : Pg.valOk has data with
      | false =>
        clear hva
        go_wp2_with fail
        refine (awake10_any w2).mono ?_
        rintro e w3 ⟨rfl, hb3⟩
        have H3 := Lib.hid (H2.out.2.2.trans (hb3.mono H2.out.2.2.size))
        clear hb3
        go_wp2_with fail
        go_ret
        exact ⟨rfl, H3.out⟩
      | true =>
        clear hva
        go_wp2_with fail
        refine (copy10_any lsn A n c l w2 (H.out.2.2.2.1.below H2.out.2.2) (by omega)).mono ?_
        rintro e w3 ⟨A3, c3, rfl, ho3, hb3⟩
        simp only [H.out.2.2.2.2] at ho3 ⊢
        have hb34 : Below w3.heap.size w3 (w3.alloc (.cells (pgCells lsn A3 n c3) 24)) := (Below.refl _ _).alloc (Nat.le_refl _) _
        have hb24 := hb3.trans (hb34.mono hb3.size)
        have hxk := Blk.new w3 24 (pgCells lsn A3 n c3)
        have hv4 := H2.out.2.1.below hb24 H2.out.2.1.lt
        have x0 : (w3.alloc (.cells (pgCells lsn A3 n c3) 24)).cell? ⟨w3.heap.size, 0, none⟩ = some (.int .i64 lsn) := hxk.cell 0
        have x1 : (w3.alloc (.cells (pgCells lsn A3 n c3) 24)).cell? ⟨w3.heap.size, 1, none⟩ = some (.slice A3 n c3) := hxk.cell 1
        have v0 : (w3.alloc (.cells (pgCells lsn A3 n c3) 24)).cell? ⟨w.heap.size + 1, 0, none⟩ = some (.bool has) := hv4.cell 0
        have v1 : (w3.alloc (.cells (pgCells lsn A3 n c3) 24)).cell? ⟨w.heap.size + 1, 1, none⟩ = some (.string data) := hv4.cell 1
        have hlt3 : w.heap.size + 1 < w3.heap.size := by have := H2.out.2.1.lt; have := hb3.size; omega
        have hxne : ∀ k, (Value.slice A3 n c3).ownBlock = some k → k < w3.heap.size := fun k e => own_lt ho3 e
        have H4 := Lib.hid (And.intro (own_below ho3 hb34) (And.intro hxk (And.intro (H2.out.1.below hb24 H2.out.1.lt) (And.intro (H2.out.2.2.trans (hb24.mono H2.out.2.2.size)) (And.intro hxne H2.out.2.2.size)))))
        have hsz4 : (w3.alloc (.cells (pgCells lsn A3 n c3) 24)).heap.size = w3.heap.size + 1 := by simp
        have HX := Lib.hid (And.intro (own_none ho3) (ST.of_own (K := cellK) (l := l) cellK_len (by decide) ho3 (H.out.2.2.2.1.ok · ·)))
        clear ho3 hb3 hb34 hb24 hxk hv4 c0 c1 hxne
        go_wp2_with fail
        generalize w3.alloc (.cells (pgCells lsn A3 n c3) 24) = w4 at *
        have hset := pset_any lsn A3 n c3 l a key has data w4 (ST.of_own (K := cellK) (l := l) cellK_len (by decide) H4.out.1 (H.out.2.2.2.1.ok · ·)) HX.out.1 (by omega) (by omega)
        have hsm := set_small (lsn0 := lsn) (lsn := a) (l := l) (key := key) (has := has) (data := data)
        have hwy := set_ways lsn a l key has data
        generalize Pg.set lsn l a key has data = R at *
        obtain ⟨ql, qk, qe⟩ := R
        simp only at hsm hwy
        have HS := Lib.hid (And.intro hset (And.intro hsm.1 hwy))
        have hq4 := hsm.2
        clear hset hsm hwy
        refine HS.out.1.mono ?_
        rintro e w5 ⟨A5, c5, rfl, ho5, hb5⟩
        simp only at ho5 ⊢
        have hb56 : Below w5.heap.size w5 (w5.alloc (.cells (pgCells ql A5 qk.length c5) 24)) := (Below.refl _ _).alloc (Nat.le_refl _) _
        have hb46 := hb5.trans (hb56.mono hb5.size)
        have hqk := Blk.new w5 24 (pgCells ql A5 qk.length c5)
        have q0 : (w5.alloc (.cells (pgCells ql A5 qk.length c5) 24)).cell? ⟨w5.heap.size, 0, none⟩ = some (.int .i64 ql) := hqk.cell 0
        have q1 : (w5.alloc (.cells (pgCells ql A5 qk.length c5) 24)).cell? ⟨w5.heap.size, 1, none⟩ = some (.slice A5 qk.length c5) := hqk.cell 1
        have hs45 : w4.heap.size ≤ w5.heap.size := hb5.size
        have H6 := Lib.hid (And.intro (own_below ho5 hb56) (And.intro hqk (And.intro (own_below H4.out.1 hb46) (And.intro (H4.out.2.1.below hb46 H4.out.2.1.lt) (And.intro (H4.out.2.2.1.below hb46 H4.out.2.2.1.lt) (H4.out.2.2.2.1.trans (hb46.mono H4.out.2.2.2.1.size)))))))
        clear ho5 hb5 hb56 hb46 hqk x0 x1 v0 v1
        go_wp2_with fail
        generalize w5.alloc (.cells (pgCells ql A5 qk.length c5) 24) = w6 at *
        generalize w5.heap.size = qb at *
        refine (copy10_any ql A5 qk.length c5 qk w6 (ST.of_own (K := cellK) (l := qk) cellK_len (by decide) H6.out.1 HS.out.2.1) (by omega)).mono ?_
        rintro e w7 ⟨A7, c7, rfl, ho7, hb7⟩
        have hb78 : Below w7.heap.size w7 (w7.alloc (.cells (pgCells ql A7 qk.length c7) 24)) := (Below.refl _ _).alloc (Nat.le_refl _) _
        have hb68 := hb7.trans (hb78.mono hb7.size)
        have hwk := Blk.new w7 24 (pgCells ql A7 qk.length c7)
        have hxk8 := H6.out.2.2.2.1.below hb68 H6.out.2.2.2.1.lt
        have hpk8 := H6.out.2.2.2.2.1.below hb68 H6.out.2.2.2.2.1.lt
        have x0 : (w7.alloc (.cells (pgCells ql A7 qk.length c7) 24)).cell? ⟨w3.heap.size, 0, none⟩ = some (.int .i64 lsn) := hxk8.cell 0
        have x1 : (w7.alloc (.cells (pgCells ql A7 qk.length c7) 24)).cell? ⟨w3.heap.size, 1, none⟩ = some (.slice A3 n c3) := hxk8.cell 1
        have c0 : (w7.alloc (.cells (pgCells ql A7 qk.length c7) 24)).cell? ⟨w.heap.size, 0, none⟩ = some (.int .i64 lsn) := hpk8.cell 0
        have c1 : (w7.alloc (.cells (pgCells ql A7 qk.length c7) 24)).cell? ⟨w.heap.size, 1, none⟩ = some (.slice A n c) := hpk8.cell 1
        have hs67 : w6.heap.size ≤ w7.heap.size := hb7.size
        have hqw : qb < w6.heap.size := H6.out.2.1.lt
        have hx8 := own_below H6.out.2.2.1 hb68
        have hbw8 := H6.out.2.2.2.2.2.trans (hb68.mono H6.out.2.2.2.2.2.size)
        have hsame := same10_eq lsn A3 A n c3 c l _ (ST.of_own (K := cellK) (l := l) cellK_len (by decide) hx8 (H.out.2.2.2.1.ok · ·)) (H.out.2.2.2.1.below hbw8) (by omega)
        have H8 := Lib.hid (And.intro (own_below H6.out.1 hb68) (And.intro (H6.out.2.1.below hb68 H6.out.2.1.lt) (And.intro hx8 (And.intro hxk8 (And.intro (own_below ho7 hb78) (And.intro hwk (And.intro hbw8 hsame)))))))
        clear ho7 hb7 hb78 hb68 hwk hxk8 hpk8 hx8 hbw8 hsame q0 q1
        go_wp2_with fail
        generalize w7.alloc (.cells (pgCells ql A7 qk.length c7) 24) = w8 at *
        generalize w7.heap.size = wb at *
        refine H8.out.2.2.2.2.2.2.2.mono ?_
        rintro e w9 ⟨rfl, hb9⟩
        have H9 := Lib.hid (And.intro (own_below H8.out.1 hb9) (And.intro (H8.out.2.1.below hb9 H8.out.2.1.lt) (And.intro (own_below H8.out.2.2.1 hb9) (And.intro (H8.out.2.2.2.1.below hb9 H8.out.2.2.2.1.lt) (And.intro (own_below H8.out.2.2.2.2.1 hb9) (And.intro (H8.out.2.2.2.2.2.1.below hb9 H8.out.2.2.2.2.2.1.lt) (H8.out.2.2.2.2.2.2.1.trans (hb9.mono H8.out.2.2.2.2.2.2.1.size))))))))
        clear hb9 x0 x1 c0 c1
        go_wp2_with fail
        go_loopw [13] (fun s13 wr => ∃ (i : Nat) (xs : List Value), i ≤ n ∧ s13 = .int .i64 i ∧ wr.ownsRow w2.heap.size 40 3 (.slice A3 n c3) n xs ∧ Fr (fun k => (Value.slice A3 n c3).ownBlock = some k) w9 wr) (fun s13 _ => n - (intOf s13).toNat)
        case atStart => exact ⟨0, _, by omega, rfl, H9.out.2.2.1, Fr.refl _ _⟩
        case round =>
          obtain ⟨i, xs, hi, rfl, hrow, hfr⟩ := hrel
          have hxk := H9.out.2.2.2.1.keep (hfr.block _ H9.out.2.2.2.1.lt (fun e => by have := H4.out.2.2.2.2.1 _ e; omega))
          have x1 : wr.cell? ⟨w3.heap.size, 1, none⟩ = some (.slice A3 n c3) := hxk.cell 1
          by_cases hlt : i < n
          · obtain ⟨g, cap, hv, _, hgl⟩ := hrow.form (by omega)
            injection hv with hv1 _ hv2
            subst hv1 hv2
            have hxl : xs.length = n * 3 := hrow.1
            have hin : (i : Int) < (n : Int) := by omega
            have e2 := hrow.cellAt (i * 3 + 1 + 1) (by omega)
            rw [List.getElem?_eq_getElem (by omega)] at e2
            have f2 := hrow.frozenAt (i * 3 + 1 + 1)
            obtain ⟨r2, _⟩ := hrow.stored (i * 3 + 1 + 1) (.string ⟨#[63]⟩)
            have HR := Lib.hid (And.intro r2 (hfr.setCell ⟨g, i * 3 + 1 + 1, none⟩ (.string ⟨#[63]⟩) (fun _ => rfl)))
            clear r2 hrow hfr hxk
            generalize xs[i * 3 + 1 + 1] = ov at *
            go_wp2_with fail
            go_roundw
            case rel => exact ⟨i + 1, _, by omega, by go_num, HR.out.1, HR.out.2⟩
            case measure => simp [intOf]; omega
          · obtain rfl : i = n := by omega
            have hne4 : ∀ k, (Value.slice A3 i c3).ownBlock = some k → k < w3.heap.size := H4.out.2.2.2.2.1
            have hqr := own_keep H9.out.1 (fun k e => hfr.block k (own_lt H9.out.1 e) (fun e2 => by have := hne4 k e2; have := own_ge H9.out.1 e; omega))
            have hwr := own_keep H9.out.2.2.2.2.1 (fun k e => hfr.block k (own_lt H9.out.2.2.2.2.1 e) (fun e2 => by have := hne4 k e2; have := own_ge H9.out.2.2.2.2.1 e; omega))
            have hqk := H9.out.2.1.keep (hfr.block _ H9.out.2.1.lt (fun e2 => by have := hne4 _ e2; omega))
            have hwk := H9.out.2.2.2.2.2.1.keep (hfr.block _ H9.out.2.2.2.2.2.1.lt (fun e2 => by have := hne4 _ e2; omega))
            have q0 : wr.cell? ⟨qb, 0, none⟩ = some (.int .i64 ql) := hqk.cell 0
            have q1 : wr.cell? ⟨qb, 1, none⟩ = some (.slice A5 qk.length c5) := hqk.cell 1
            have t0 : wr.cell? ⟨wb, 0, none⟩ = some (.int .i64 ql) := hwk.cell 0
            have t1 : wr.cell? ⟨wb, 1, none⟩ = some (.slice A7 qk.length c7) := hwk.cell 1
            have hsame := same10_eq ql A5 A7 qk.length c5 c7 qk wr (ST.of_own (K := cellK) (l := qk) cellK_len (by decide) hqr HS.out.2.1) (ST.of_own (K := cellK) (l := qk) cellK_len (by decide) hwr HS.out.2.1) (by omega)
            have hbw := H9.out.2.2.2.2.2.2.trans (hfr.below H9.out.2.2.2.2.2.2.size (fun k e => by have := own_ge H9.out.2.2.1 e; have := H2.out.2.2.size; omega))
            have HZ := Lib.hid (And.intro hsame (And.intro hbw hqk))
            clear hsame hbw hqr hwr hqk hwk hrow hfr hxk
            go_wp2_with fail
            refine HZ.out.1.mono ?_
            rintro e w10 ⟨rfl, hb10⟩
            have hqk := HZ.out.2.2.below hb10 HZ.out.2.2.lt
            have q1 : w10.cell? ⟨qb, 1, none⟩ = some (.slice A5 qk.length c5) := hqk.cell 1
            have H10 := Lib.hid (HZ.out.2.1.trans (hb10.mono HZ.out.2.1.size))
            clear hb10 hqk
            rcases HS.out.2.2 with hz | ⟨hz, hk⟩
            · have e1 : ((qe : Int) == 0) = true := by rw [hz]; rfl
              clear hz
              go_wp2_with fail
              refine (awake10_any w10).mono ?_
              rintro e w11 ⟨rfl, hb11⟩
              have H11 := Lib.hid (H10.out.trans (hb11.mono H10.out.size))
              clear hb11
              go_wp2_with fail
              go_ret
              exact ⟨rfl, H11.out⟩
            · have e1 : ((qe : Int) == 0) = false := by rw [beq_eq_false_iff_ne]; omega
              have hlen : qk.length = 0 := by rw [hk]; rfl
              have e2 : ((qk.length : Int) == 0) = true := by rw [hlen]; rfl
              clear hz hk hlen
              go_wp2_with fail
              refine (awake10_any w10).mono ?_
              rintro e w11 ⟨rfl, hb11⟩
              have H11 := Lib.hid (H10.out.trans (hb11.mono H10.out.size))
              clear hb11
              go_wp2_with fail
              go_ret
              exact ⟨rfl, H11.out⟩

theorem own : ownKnob Try.prog.godebug = none := by kernel_rfl
theorem laidOut : laidOutB Try.prog = true := by kernel_rfl
theorem params_ok : ∀ t ∈ Try.f4.params.toList, Try.prog.readableRec t = true ∧ t < Try.prog.types.size := by
  rw [Try.params4]
  intro t ht
  have ht' : t = 24 ∨ t = 3 ∨ t = 9 ∨ t = 26 := by
    simpa using ht
  rcases ht' with rfl | rfl | rfl | rfl
  · exact ⟨(show Try.prog.readableRec 24 = true by kernel_rfl), of_decide_eq_true (show decide (24 < Try.prog.types.size) = true by kernel_rfl)⟩
  · exact ⟨(show Try.prog.readableRec 3 = true by kernel_rfl), of_decide_eq_true (show decide (3 < Try.prog.types.size) = true by kernel_rfl)⟩
  · exact ⟨(show Try.prog.readableRec 9 = true by kernel_rfl), of_decide_eq_true (show decide (9 < Try.prog.types.size) = true by kernel_rfl)⟩
  · exact ⟨(show Try.prog.readableRec 26 = true by kernel_rfl), of_decide_eq_true (show decide (26 < Try.prog.types.size) = true by kernel_rfl)⟩

set_option maxRecDepth 100000 in
theorem contract (H : Type) (enc : TypeId × Value → H) (W : World) (base : Nat) (args : Array Value) (ds gs : List (DataW H)) (before : List MemPlace)
    (hval : ∀ (j : Nat) t v, Try.f4.params[j]? = some t → args[j]? = some v → Value.okWide Try.prog W .any base t v)
    (hW : DataW.Whole enc Try.prog Try.f4.params.toList Rows.pageOwnSpec.vars false W args.toList ds gs before) :
    Calls Try.prog 4 args W fun e W' => ∃ v, e = .returned v ∧ Rows.pageOwnSpec.post enc Try.prog Try.f4 false true false false W args v W' := by
  have hW' := hW
  obtain ⟨p, q, hA0, hV, rfl, hfz, hnd⟩ := hW
  have hA : DataW.TrodAll enc Try.prog W 0 (fun _ => true) true Try.f4.params.toList args.toList ds p := hA0
  rw [Try.params4] at hA hval
  obtain ⟨v0, vs0, d0, ds0, p0, q0, hargs, rfl, rfl, h0, r0⟩ := trodAll_cons hA
  obtain ⟨v1, vs1, d1, ds1, p1, q1, rfl, rfl, rfl, h1, r1⟩ := trodAll_cons r0
  obtain ⟨v2, vs2, d2, ds2, p2, q2, rfl, rfl, rfl, h2, r2⟩ := trodAll_cons r1
  obtain ⟨v3, vs3, d3, ds3, p3, q3, rfl, rfl, rfl, h3, r3⟩ := trodAll_cons r2
  obtain ⟨rfl, rfl, rfl⟩ := trodAll_nil r3
  obtain rfl : args = #[v0, v1, v2, v3] := by cases args; simp_all
  obtain ⟨rfl, rfl⟩ := trodVars_none hV
  obtain ⟨x0, A0, n0, c0, l0, rfl, xb0, lh0, nc0, cm0⟩ := open_page (hval 0 24 v0 rfl rfl) h0
  obtain ⟨x1, rfl, rfl, rfl, w1⟩ := open_int Try.underlying3 (hval 1 3 v1 rfl rfl) h1
  have b1 := bounds_i64 w1
  obtain ⟨x2, rfl, rfl, rfl, sw2⟩ := open_string Try.underlying9 (hval 2 9 v2 rfl rfl) h2
  obtain ⟨x3, y3, rfl, yb3⟩ := open_value (hval 3 26 v3 rfl rfl) h3
  refine (walk x0 A0 n0 c0 l0 x1 x2 x3 y3 W lh0 nc0 cm0 xb0.1 xb0.2 b1.1 b1.2 sw2 yb3).mono fun e W' ⟨he, bel⟩ => ?_
  exact ⟨_, he, post_true laidOut Try.underlying4 (show Try.f4.resultTypes = #[4] from rfl) params_ok rfl hW' rfl bel⟩

theorem laid_met (os : Os) : laidMet Try.prog Rows.pageOwnRow.laid ((World.holding Try.prog os ⟨#[], #[], []⟩).forCall (fun _ _ => 0) ⟨#[], #[.agg #[.int .i64 0, .slice none 0 0], .int .i64 0, .string ⟨#[]⟩, .agg #[.bool false, .string ⟨#[]⟩]], []⟩).memory :=
  laidMet_of_run' 8 (by kernel_rfl) (by kernel_rfl)
theorem reads (os : Os) {H : Type} (enc : TypeId × Value → H) : ∃ places, DataW.whole enc Try.prog ((World.holding Try.prog os ⟨#[], #[], []⟩).forCall (fun _ _ => 0) ⟨#[], #[.agg #[.int .i64 0, .slice none 0 0], .int .i64 0, .string ⟨#[]⟩, .agg #[.bool false, .string ⟨#[]⟩]], []⟩).memory Try.f4.params.toList Rows.pageOwnSpec.vars false (#[Value.agg #[.int .i64 0, .slice none 0 0], Value.int .i64 0, Value.string ⟨#[]⟩, Value.agg #[.bool false, .string ⟨#[]⟩]] : Array Value).toList 8 = some ([.agg [.lit (.int .i64 0), .nil], .lit (.int .i64 0), .lit (.string []), .agg [.lit (.bool false), .lit (.string [])]], [], places) :=
  ⟨[], by kernel_rfl⟩
set_option maxRecDepth 100000 in
theorem lifted (os : Os) (started : os.Started) (H : Type) (enc : TypeId × Value → H) (F : Stop.Interp) :
    ReturnsInHanded {} Try.checked os 4 .any ((OpenSpec.ofChange Rows.pageOwnSpec).preRow enc Try.prog Try.f4 Rows.pageOwnRow.domain false Rows.pageOwnRow.laid) (((OpenSpec.ofChange Rows.pageOwnSpec).at F).post enc Try.prog Try.f4 false true false false) := by
  obtain ⟨places, hx⟩ := reads os enc
  refine returnsInHanded_of_row (C := Try.checked) (s := OpenSpec.ofChange Rows.pageOwnSpec) own started (by kernel_rfl) Try.func4
    (witness_row_at (enc := enc) (C := Try.checked) false (World.holding Try.prog os ⟨#[], #[], []⟩) #[.agg #[.int .i64 0, .slice none 0 0], .int .i64 0, .string ⟨#[]⟩, .agg #[.bool false, .string ⟨#[]⟩]] rfl (by kernel_rfl) (by kernel_rfl) (by kernel_rfl)
      (OpenSpec.preRow_of_cond 8 hx (by kernel_rfl) (fun k hk => by cases hk) (by kernel_rfl) (laid_met os))) ?_
  intro W base args ds gs before hval hW _ _ hsz hL _ _
  exact contract H enc W base args ds gs before hval hW
theorem said : Rows.PageOwnSaid :=
  OpenClaim.holds_of_cond 4 Try.f4 rfl rfl rfl rfl rfl rfl rfl ⟨rfl, rfl, rfl, rfl, rfl⟩ rfl rfl rfl rfl rfl (by kernel_rfl) Try.func4 (by kernel_rfl)
    (of_decide_eq_true (by kernel_rfl)) (by unfold Func.isWrapper; first | (rw [if_pos (by decide +kernel)]; kernel_rfl) | (rw [if_neg (by decide +kernel)]; exact ⟨rfl, rfl⟩))
    (fun os started H enc _ F => by rw [OpenClaim.pre_eq_preRow]; exact lifted os started H enc F)
#print axioms said
end Go.Proofs.Ytfcmlfcpgboigaa.pageOwn
