/- Whoever writes into a record's bytes, or into what was decoded from, changes nothing that is answered again; no condition. -/
import Derived.Test.YtlijfnekopjogaaRecAwake
import Derived.Test.YtlijfnekopjogaaRecCopys
import Derived.Test.YtlijfnekopjogaaRecOpen
import Derived.Test.YtlijfnekopjogaaLift
import Derived.Test.YtlijfnekopjogaaRows
namespace Go.Proofs.Ytlijfnekopjogaa.recOwn
open Go.ChangeMaps Go.ChangeShapes Go.WideShapes Go.ChangeAt Go.RowKit Mem Lift Rc
set_option maxRecDepth 100000
set_option linter.unusedVariables false
set_option linter.unusedSimpArgs false

/-- bytes that may be written into -/
def Wb (w : World) (A : Option Addr) (n : Nat) : Prop := 0 < n → ∃ g, A = some ⟨g, 0, none⟩ ∧ ∀ j, j < n → (∃ x : UInt8, w.cell? ⟨g, j, none⟩ = some (u8 x)) ∧ w.frozen? ⟨g, j, none⟩ = false
theorem own_len {w : World} {base n c : Nat} {A : Option Addr} {bs : List UInt8} (h : w.ownsRow base 5 1 (.slice A n c) n (u8s bs)) : bs.length = n := by
  have h1 := h.1
  rw [u8s_length] at h1
  omega
theorem Wb.of_own {w : World} {base n c : Nat} {A : Option Addr} {bs : List UInt8} (h : w.ownsRow base 5 1 (.slice A n c) n (u8s bs)) : Wb w A n := by
  intro hn
  have hl := own_len h
  obtain ⟨g, cap, hv, _, _⟩ := h.form hn
  have hA : A = some ⟨g, 0, none⟩ := by injection hv
  subst hA
  refine ⟨g, rfl, fun j hj => ⟨⟨bs.getD j 0, ?_⟩, h.frozenAt j⟩⟩
  rw [h.cellAt j (by omega), u8s_getElem?, List.getD_eq_getElem?_getD, List.getElem?_eq_getElem (by omega)]
  rfl
theorem Wb.set {w : World} {g n k : Nat} (h : ∀ j, j < n → (∃ x : UInt8, w.cell? ⟨g, j, none⟩ = some (u8 x)) ∧ w.frozen? ⟨g, j, none⟩ = false) (hk : k < n) (y : UInt8) : Wb (w.setCell ⟨g, k, none⟩ (u8 y)) (some ⟨g, 0, none⟩) n := by
  intro _
  refine ⟨g, rfl, fun j hj => ?_⟩
  rw [World.frozen?_setCell]
  refine ⟨?_, (h j hj).2⟩
  by_cases e : j = k
  · subst e
    obtain ⟨x, hx⟩ := (h j hj).1
    exact ⟨y, World.cell?_setCell_same _ _ _ hx⟩
  · rw [World.cell?_setCell_other (h := by intro e2; injection e2 with e3 e4 _; exact e e4.symm)]
    exact (h j hj).1
def Blo (A : Option Addr) (k : Nat) : Prop := ∃ a, A = some a ∧ a.block = k
theorem xor255 (x : UInt8) : bits .xor .u8 (x.toNat : Int) 255 = ((x ^^^ 255).toNat : Int) := by
  rw [show (255 : Int) = ((255 : Nat) : Int) from rfl, u8_xor_nat _ _ x.toNat_lt (by omega), UInt8.toNat_xor]
  rfl
theorem blo_own {w : World} {base n c k : Nat} {A : Option Addr} {e : TypeId} {xs : List Value} (h : w.ownsRow base e 1 (.slice A n c) n xs) (hk : Blo A k) : base ≤ k ∧ k < w.heap.size := by
  obtain ⟨a, rfl, rfl⟩ := hk
  rcases h.2 with ⟨e, _⟩ | ⟨g, cap, cur, e, hg, hb, _⟩
  · cases e
  · injection e with e1 _ _
    injection e1 with e1
    subst e1
    refine ⟨hg, ?_⟩
    rcases Nat.lt_or_ge g w.heap.size with hlt | hge
    · exact hlt
    · rw [Array.getElem?_eq_none hge] at hb; cases hb
theorem enc_dec (m : M) : ∃ bs en, Rc.enc m = (bs, en) ∧ bs.length ≤ 4096 ∧ (en = 0 → Rc.dec bs = (m, 0)) ∧ (en = 0 ∨ en = 1 ∨ en = 12) := by
  rcases enc_ways m with ⟨e, he, h, _⟩ | ⟨h1, h2, h3⟩
  · exact ⟨_, _, h, by simp, fun h0 => by omega, by omega⟩
  · exact ⟨_, _, h3, h2, fun _ => dec_enc h1 h2, .inl rfl⟩
set_option maxHeartbeats 8000000 in
theorem walk (x : MD) (w : World) (hok : MOk w x) :
    Calls Try.prog 7 #[mVal x] w fun e w' => e = .returned (.bool true) ∧ Below w.heap.size w w' := by
  obtain ⟨W0, hW0⟩ : ∃ W0, w.alloc (.cells (mCells x) 30) = W0 := ⟨_, rfl⟩
  have hb0 : Below w.heap.size w W0 := by rw [← hW0]; exact (Below.refl _ _).alloc (Nat.le_refl _) _
  have hx0 : Blk W0 w.heap.size 30 (mCells x) := by rw [← hW0]; exact Blk.new _ _ _
  have H := Lib.hid (And.intro hb0 (hok.below hb0))
  clear hok hb0
  go_enter Try.func7, Try.ntmps7
  go_wp2_with (refine wpList_load_rec' _ (by rfl) (by rfl) (by rfl) hx0 ?_)
  refine (great_any x _ H.out.2).mono ?_
  rintro e w1 ⟨g, rfl, hb1, hng⟩
  have hx1 := hx0.below hb1 hx0.lt
  have H1 := Lib.hid (And.intro (H.out.1.trans (hb1.mono H.out.1.size)) (And.intro (H.out.2.below hb1) hng))
  clear hb1 hng hx0 hW0
  cases g with
  | true =>
    go_wp2_with fail
    refine (awake07_any _).mono ?_
    rintro e w2 ⟨rfl, hb2⟩
    have H2 := Lib.hid (H1.out.1.trans (hb2.mono H1.out.1.size))
    clear hb2
    go_wp2
    go_ret
    exact ⟨rfl, H2.out⟩
  | false =>
    have HNG := Lib.hid (H1.out.2.2 rfl)
    go_wp2_with (refine wpList_load_rec' _ (by rfl) (by rfl) (by rfl) hx1 ?_)
    refine (copy07_any x _ H1.out.2.1 HNG.out).mono ?_
    rintro e w2 ⟨y, rfl, hym, hoky, _, hb2⟩
    have hby : Blk (w2.alloc (.cells #[.int .i64 0, .int .i64 0, .int .i64 0, .int .i64 0, .string ⟨#[]⟩, .bool false, .string ⟨#[]⟩, .bool false, .string ⟨#[]⟩, .int .i64 0, .slice none 0 0, .slice none 0 0, .slice none 0 0, .slice none 0 0, .slice none 0 0, .slice none 0 0] 30)) w2.heap.size 30 zCells := Blk.new _ _ _
    have hx2 := hx1.below hb2 hx1.lt
    have H2 := Lib.hid (And.intro hym (And.intro hoky (And.intro (H1.out.1.trans (hb2.mono H1.out.1.size)) (And.intro (H1.out.2.1.below hb2) hx2))))
    clear hym hoky hb2 hx1
    go_wp2_with (first | (refine wpList_store_rec y (by rfl) _ _ (by rfl) (by rfl) (by rfl) hby (by rfl) ?_; intro w3 hB3 hF3 hS3; have H3 := Lib.hid (And.intro hF3 hS3); clear hF3 hS3) | (refine wpList_load_rec' _ (by rfl) (by rfl) (by rfl) hB3 ?_))
    have hb3 : Below w2.heap.size w2 w3 := ((Below.refl _ w2).alloc (Nat.le_refl _) _).trans (H3.out.1.below (by simp) (fun j hj => by have e : j = w2.heap.size := hj; omega))
    have h32 : w3.heap.size = w2.heap.size + 1 := by rw [H3.out.2, World.size_alloc]
    obtain ⟨bs, en, henc, hle, hdec, hens⟩ := enc_dec y.m
    have hsy : Small y := small_m H2.out.1 HNG.out.small
    have HB3 := Lib.hid (And.intro hB3 (And.intro (H2.out.2.1.below hb3) (And.intro (H2.out.2.2.1.trans (hb3.mono H2.out.2.2.1.size)) (And.intro (H2.out.2.2.2.1.below hb3) (And.intro (H2.out.2.2.2.2.below hb3 H2.out.2.2.2.2.lt) (And.intro hsy (And.intro henc hdec)))))))
    clear hb3 hby hx2 hB3 hsy henc hdec
    refine (rencode_any y _ HB3.out.2.1 HB3.out.2.2.2.2.2.1).mono ?_
    rintro e w4 ⟨v, rfl, ho, hb4⟩
    rw [HB3.out.2.2.2.2.2.2.1] at ho ⊢
    dsimp only at ho ⊢
    obtain ⟨A2, c2, rfl⟩ := own_slice ho
    obtain ⟨N, hN⟩ : ∃ N, bs.length = N := ⟨_, rfl⟩
    have hN4 : N ≤ 4096 := by omega
    rw [hN] at ho ⊢
    have H4 := Lib.hid (And.intro ho (And.intro hb4 (And.intro hN (own_capI ho))))
    clear ho hb4 hN
    go_wp2_with fail
    go_loopw [6] (fun i wr => ∃ k : Nat, k ≤ N ∧ i = .int .i64 k ∧ Wb wr A2 N ∧ Fr (Blo A2) w4 wr) (fun i _ => N - (intOf i).toNat)
    case atStart => exact ⟨0, by omega, rfl, Wb.of_own H4.out.1, Fr.refl _ _⟩
    case round =>
      obtain ⟨k, hk, rfl, hwb, hfr⟩ := hrel
      by_cases hlt : k < N
      · obtain ⟨g, rfl, hg⟩ := hwb (by omega)
        obtain ⟨⟨b, hx⟩, hz⟩ := hg k hlt
        have HL := Lib.hid (And.intro hg hfr)
        clear hg hfr hwb
        go_wp2
        go_roundw
        case rel => exact ⟨k + 1, by omega, by go_num, by rw [xor255 b]; exact Wb.set HL.out.1 hlt _, HL.out.2.setCell _ _ (fun _ => ⟨_, rfl, rfl⟩)⟩
        case measure => simp [intOf]; omega
      obtain rfl : N = k := by omega
      obtain ⟨v1, hv1⟩ : ∃ v, v = wr := ⟨_, rfl⟩
      subst hv1
      have hb3 : Below w3.heap.size w3 v1 := H4.out.2.1.trans (hfr.below H4.out.2.1.size (fun i hi => (blo_own H4.out.1 hi).1))
      have hB3 := HB3.out.1.below hb3 HB3.out.1.lt
      have H5 := Lib.hid (And.intro (HB3.out.2.1.below hb3) (And.intro (HB3.out.2.2.1.trans (hb3.mono HB3.out.2.2.1.size)) (And.intro (HB3.out.2.2.2.1.below hb3) (HB3.out.2.2.2.2.1.below hb3 HB3.out.2.2.2.2.1.lt))))
      clear hwb hfr hb3
      go_wp2_with (refine wpList_load_rec' _ (by rfl) (by rfl) (by rfl) hB3 ?_)
      refine (rencode_any y _ H5.out.1 HB3.out.2.2.2.2.2.1).mono ?_
      rintro e w5 ⟨v, rfl, ho5, hb5⟩
      rw [HB3.out.2.2.2.2.2.2.1] at ho5 ⊢
      dsimp only at ho5 ⊢
      obtain ⟨A3, c3, rfl⟩ := own_slice ho5
      rw [H4.out.2.2.1] at ho5 ⊢
      have hB5 := hB3.below hb5 hB3.lt
      have hX5 := H5.out.2.2.2.below hb5 H5.out.2.2.2.lt
      have H6 := Lib.hid (And.intro ho5 (And.intro (H5.out.1.below hb5) (And.intro (H5.out.2.1.trans (hb5.mono H5.out.2.1.size)) (And.intro (H5.out.2.2.1.below hb5) (And.intro hb5.size (And.intro hb5 (own_capI ho5)))))))
      clear ho5 hb5 hB3
      go_wp2_with (first | (refine wpList_load_rec' _ (by rfl) (by rfl) (by rfl) hB5 ?_) | (refine wpList_load_rec' _ (by rfl) (by rfl) (by rfl) hX5 ?_))
      refine (same07_eq y x _ H6.out.2.1 H6.out.2.2.2.1 HB3.out.2.2.2.2.2.1 H2.out.1).mono ?_
      rintro e w6 ⟨rfl, hb6⟩
      have hX6 := hX5.below hb6 hX5.lt
      have H7 := Lib.hid (And.intro (own_below H6.out.1 hb6) (And.intro (H6.out.2.2.1.trans (hb6.mono H6.out.2.2.1.size)) (And.intro (H6.out.2.2.2.1.below hb6) hb6)))
      clear hb6 hB5 hX5
      rcases Nat.eq_zero_or_pos en with rfl | hen
      · have HDC := Lib.hid (HB3.out.2.2.2.2.2.2.2 rfl)
        go_wp2_with fail
        have hd := rdecode_any A3 N c3 bs w6 (BS.of_own H7.out.1) (by omega)
        rw [HDC.out] at hd
        refine hd.mono ?_
        rintro e w7 ⟨z, rfl, hzm, hokz, hapz, hb7⟩
        dsimp only at hzm ⊢
        have hbz : Blk (w7.alloc (.cells #[.int .i64 0, .int .i64 0, .int .i64 0, .int .i64 0, .string ⟨#[]⟩, .bool false, .string ⟨#[]⟩, .bool false, .string ⟨#[]⟩, .int .i64 0, .slice none 0 0, .slice none 0 0, .slice none 0 0, .slice none 0 0, .slice none 0 0, .slice none 0 0] 30)) w7.heap.size 30 zCells := Blk.new _ _ _
        have H8 := Lib.hid (And.intro hzm (And.intro hokz (And.intro hapz (And.intro (own_below H7.out.1 hb7) (And.intro (H7.out.2.1.trans (hb7.mono H7.out.2.1.size)) (And.intro (H7.out.2.2.1.below hb7) (And.intro hb7.size (And.intro (hX6.below hb7 hX6.lt) hb7))))))))
        clear hd hzm hokz hapz hb7 hX6
        go_wp2_with (refine wpList_store_rec z (by rfl) _ _ (by rfl) (by rfl) (by rfl) hbz (by rfl) ?_; intro w8 hB8 hF8 hS8)
        have hb8 : Below w7.heap.size w7 w8 := ((Below.refl _ w7).alloc (Nat.le_refl _) _).trans (hF8.below (by simp) (fun j hj => by have e : j = w7.heap.size := hj; omega))
        have HV := Lib.hid (((H6.out.2.2.2.2.2.1).trans (H7.out.2.2.2.mono H6.out.2.2.2.2.2.1.size)).trans ((H8.out.2.2.2.2.2.2.2.2.trans (hb8.mono H8.out.2.2.2.2.2.2.2.2.size)).mono (Nat.le_trans H6.out.2.2.2.2.2.1.size H7.out.2.2.2.size)))
        have H9 := Lib.hid (And.intro hB8 (And.intro (H8.out.2.1.below hb8) (And.intro (own_below H8.out.2.2.2.1 hb8) (And.intro (H8.out.2.2.2.2.1.trans (hb8.mono H8.out.2.2.2.2.1.size)) (And.intro (H8.out.2.2.2.2.2.1.below hb8) (H8.out.2.2.2.2.2.2.2.1.below hb8 H8.out.2.2.2.2.2.2.2.1.lt))))))
        clear hB8 hF8 hS8 hb8 hbz
        go_loopw [11] (fun i wr => ∃ k : Nat, k ≤ N ∧ i = .int .i64 k ∧ Wb wr A3 N ∧ Fr (Blo A3) w8 wr) (fun i _ => N - (intOf i).toNat)
        case atStart => exact ⟨0, by omega, rfl, Wb.of_own H9.out.2.2.1, Fr.refl _ _⟩
        case round =>
          obtain ⟨k, hk, rfl, hwb, hfr⟩ := hrel
          by_cases hlt : k < N
          · obtain ⟨g, rfl, hg⟩ := hwb (by omega)
            obtain ⟨⟨b, hx⟩, hz⟩ := hg k hlt
            have HL := Lib.hid (And.intro hg hfr)
            clear hg hfr hwb
            go_wp2
            go_roundw
            case rel => exact ⟨k + 1, by omega, by go_num, by rw [xor255 b]; exact Wb.set HL.out.1 hlt _, HL.out.2.setCell _ _ (fun _ => ⟨_, rfl, rfl⟩)⟩
            case measure => simp [intOf]; omega
          obtain rfl : N = k := by omega
          have hblo : ∀ i, Blo A3 i → v1.heap.size ≤ i ∧ i < w6.heap.size := fun i hi => ⟨(blo_own H6.out.1 hi).1, (blo_own H7.out.1 hi).2⟩
          have hb10 : Below v1.heap.size v1 wr := HV.out.trans (hfr.below HV.out.size (fun i hi => (hblo i hi).1))
          have hXr := H5.out.2.2.2.below hb10 H5.out.2.2.2.lt
          have hZr : Blk wr w7.heap.size 30 (mCells z) := H9.out.1.keep (hfr.block _ H9.out.1.lt (fun h => by have := (hblo _ h).2; have := H8.out.2.2.2.2.2.2.1; omega))
          have H10 := Lib.hid (And.intro (H9.out.2.1.fr H8.out.2.2.1 hfr (fun k hk => (hblo k hk).2)) (And.intro (H5.out.2.2.1.below hb10) (H5.out.2.1.trans (hb10.mono H5.out.2.1.size))))
          clear hblo hb10 hfr hwb
          go_wp2_with (first | (refine wpList_load_rec' _ (by rfl) (by rfl) (by rfl) hZr ?_) | (refine wpList_load_rec' _ (by rfl) (by rfl) (by rfl) hXr ?_))
          refine (same07_eq z x _ H10.out.1 H10.out.2.1 (small_m H8.out.1 HB3.out.2.2.2.2.2.1) (H8.out.1.trans H2.out.1)).mono ?_
          rintro e w9 ⟨rfl, hb9⟩
          have H11 := Lib.hid (H10.out.2.2.trans (hb9.mono H10.out.2.2.size))
          clear hb9 hZr hXr
          go_wp2_with fail
          refine (awake07_any _).mono ?_
          rintro e w10 ⟨rfl, hb10⟩
          have H12 := Lib.hid (H11.out.trans (hb10.mono H11.out.size))
          clear hb10
          go_wp2
          go_ret
          exact ⟨rfl, H12.out⟩
      · go_wp2_with fail
        refine (awake07_any _).mono ?_
        rintro e w9 ⟨rfl, hb9⟩
        have H9 := Lib.hid (H7.out.2.1.trans (hb9.mono H7.out.2.1.size))
        clear hb9
        go_wp2
        go_ret
        exact ⟨rfl, H9.out⟩

theorem own : ownKnob Try.prog.godebug = none := by kernel_rfl
theorem laidOut : laidOutB Try.prog = true := by kernel_rfl
theorem params_ok : ∀ t ∈ Try.f7.params.toList, Try.prog.readableRec t = true ∧ t < Try.prog.types.size := by
  rw [Try.params7]
  intro t ht
  have ht' : t = 30 := by
    simpa using ht
  subst ht'
  exact ⟨(show Try.prog.readableRec 30 = true by kernel_rfl), of_decide_eq_true (show decide (30 < Try.prog.types.size) = true by kernel_rfl)⟩

set_option maxRecDepth 100000 in
theorem contract (H : Type) (enc : TypeId × Value → H) (W : World) (base : Nat) (args : Array Value) (ds gs : List (DataW H)) (before : List MemPlace)
    (hval : ∀ (j : Nat) t v, Try.f7.params[j]? = some t → args[j]? = some v → Value.okWide Try.prog W .any base t v)
    (hW : DataW.Whole enc Try.prog Try.f7.params.toList Rows.recOwnSpec.vars false W args.toList ds gs before) :
    Calls Try.prog 7 args W fun e W' => ∃ v, e = .returned v ∧ Rows.recOwnSpec.post enc Try.prog Try.f7 false true false false W args v W' := by
  have hW' := hW
  obtain ⟨p, q, hA0, hV, rfl, hfz, hnd⟩ := hW
  have hA : DataW.TrodAll enc Try.prog W 0 (fun _ => true) true Try.f7.params.toList args.toList ds p := hA0
  rw [Try.params7] at hA hval
  obtain ⟨v0, vs0, d0, ds0, p0, q0, hargs, rfl, rfl, h0, r0⟩ := trodAll_cons hA
  obtain ⟨rfl, rfl, rfl⟩ := trodAll_nil r0
  obtain rfl : args = #[v0] := by cases args; simp_all
  obtain ⟨rfl, rfl⟩ := trodVars_none hV
  obtain ⟨x0, rfl, ok0⟩ := open_rec (hval 0 30 v0 rfl rfl) h0
  refine (walk x0 W ok0).mono fun e W' ⟨he, bel⟩ => ?_
  exact ⟨_, he, post_true laidOut Try.underlying4 (show Try.f7.resultTypes = #[4] from rfl) params_ok rfl hW' rfl bel⟩

theorem laid_met (os : Os) : laidMet Try.prog Rows.recOwnRow.laid ((World.holding Try.prog os ⟨#[], #[], []⟩).forCall (fun _ _ => 0) ⟨#[], #[.agg #[.int .i64 0, .int .i64 0, .int .i64 0, .int .i64 0, .string ⟨#[]⟩, .bool false, .string ⟨#[]⟩, .bool false, .string ⟨#[]⟩, .int .i64 0, .slice none 0 0, .slice none 0 0, .slice none 0 0, .slice none 0 0, .slice none 0 0, .slice none 0 0]], []⟩).memory :=
  laidMet_of_run' 8 (by kernel_rfl) (by kernel_rfl)
theorem reads (os : Os) {H : Type} (enc : TypeId × Value → H) : ∃ places, DataW.whole enc Try.prog ((World.holding Try.prog os ⟨#[], #[], []⟩).forCall (fun _ _ => 0) ⟨#[], #[.agg #[.int .i64 0, .int .i64 0, .int .i64 0, .int .i64 0, .string ⟨#[]⟩, .bool false, .string ⟨#[]⟩, .bool false, .string ⟨#[]⟩, .int .i64 0, .slice none 0 0, .slice none 0 0, .slice none 0 0, .slice none 0 0, .slice none 0 0, .slice none 0 0]], []⟩).memory Try.f7.params.toList Rows.recOwnSpec.vars false (#[Value.agg #[.int .i64 0, .int .i64 0, .int .i64 0, .int .i64 0, .string ⟨#[]⟩, .bool false, .string ⟨#[]⟩, .bool false, .string ⟨#[]⟩, .int .i64 0, .slice none 0 0, .slice none 0 0, .slice none 0 0, .slice none 0 0, .slice none 0 0, .slice none 0 0]] : Array Value).toList 8 = some ([.agg [.lit (.int .i64 0), .lit (.int .i64 0), .lit (.int .i64 0), .lit (.int .i64 0), .lit (.string []), .agg [.lit (.bool false), .lit (.string [])], .agg [.lit (.bool false), .lit (.string [])], .lit (.int .i64 0), .nil, .nil, .nil, .nil, .nil, .nil]], [], places) :=
  ⟨[], by kernel_rfl⟩
set_option maxRecDepth 100000 in
theorem lifted (os : Os) (started : os.Started) (H : Type) (enc : TypeId × Value → H) (F : Stop.Interp) :
    ReturnsInHanded {} Try.checked os 7 .any ((OpenSpec.ofChange Rows.recOwnSpec).preRow enc Try.prog Try.f7 Rows.recOwnRow.domain false Rows.recOwnRow.laid) (((OpenSpec.ofChange Rows.recOwnSpec).at F).post enc Try.prog Try.f7 false true false false) := by
  obtain ⟨places, hx⟩ := reads os enc
  refine returnsInHanded_of_row (C := Try.checked) (s := OpenSpec.ofChange Rows.recOwnSpec) own started (by kernel_rfl) Try.func7
    (witness_row_at (enc := enc) (C := Try.checked) false (World.holding Try.prog os ⟨#[], #[], []⟩) #[.agg #[.int .i64 0, .int .i64 0, .int .i64 0, .int .i64 0, .string ⟨#[]⟩, .bool false, .string ⟨#[]⟩, .bool false, .string ⟨#[]⟩, .int .i64 0, .slice none 0 0, .slice none 0 0, .slice none 0 0, .slice none 0 0, .slice none 0 0, .slice none 0 0]] rfl (by kernel_rfl) (by kernel_rfl) (by kernel_rfl)
      (OpenSpec.preRow_of_cond 8 hx (by kernel_rfl) (fun k hk => by cases hk) (by kernel_rfl) (laid_met os))) ?_
  intro W base args ds gs before hval hW _ _ hsz hL _ _
  exact contract H enc W base args ds gs before hval hW
theorem said : Rows.RecOwnSaid :=
  OpenClaim.holds_of_cond 7 Try.f7 rfl rfl rfl rfl rfl rfl rfl ⟨rfl, rfl, rfl, rfl, rfl⟩ rfl rfl rfl rfl rfl (by kernel_rfl) Try.func7 (by kernel_rfl)
    (of_decide_eq_true (by kernel_rfl)) (by unfold Func.isWrapper; first | (rw [if_pos (by decide +kernel)]; kernel_rfl) | (rw [if_neg (by decide +kernel)]; exact ⟨rfl, rfl⟩))
    (fun os started H enc _ F => by rw [OpenClaim.pre_eq_preRow]; exact lifted os started H enc F)
#print axioms said
end Go.Proofs.Ytlijfnekopjogaa.recOwn
