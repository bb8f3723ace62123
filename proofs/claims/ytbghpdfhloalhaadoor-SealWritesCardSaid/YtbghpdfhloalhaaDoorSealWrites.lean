/- SealWrites: what a writer gathers is the document's bytes; no condition. -/
import Derived.Test.YtbghpdfhloalhaaDoorParts03
import Derived.Test.YtbghpdfhloalhaaDoorSealRefs
import Derived.Test.YtbghpdfhloalhaaDoorLift
import Derived.Test.YtbghpdfhloalhaaDoorCards
import Derived.Test.YtbghpdfhloalhaaDoorTie
import Derived.Lib.LaidTab
namespace Go.Proofs.YtbghpdfhloalhaaDoor.sealWrites
open Go.ChangeShapes Go.WideShapes Go.ChangeAt Go.RowKit Mem Lift
set_option linter.unusedVariables false
set_option linter.unusedSimpArgs false

theorem made_one (w : World) (x : UInt8) : BS (w.alloc (.cells #[.int .u8 (x.toNat : Int)] 5)) (some ⟨w.heap.size, 0, none⟩) 1 [x] := BS.made w #[.int .u8 (x.toNat : Int)] 5 (0, 0) [x] rfl
set_option maxRecDepth 100000 in
set_option maxHeartbeats 2000000 in
theorem walk (A : Option Addr) (n c : Nat) (l : List PartD) (w : World) (hl : ST partK w A n l) (hn : n ≤ c) (hc : c ≤ maxLen) (ht : Half w) :
    Calls Tryd.prog 6 #[.slice A n c] w fun e w' => e = .returned (.bool true) ∧ Below w.heap.size w w' := by
  unfold maxLen at hc
  cases hs : longP l
  · have hlf := longP_false hs
    have hn60 : n ≤ 60 := by rw [← hl.len]; exact hlf.1
    have hlong := long03_any A n c l w hl hn hc
    rw [hs] at hlong
    have HL := Lib.hid (And.intro hl (And.intro hlf.2 (And.intro hlf.1 (And.intro hs (And.intro ht hlong)))))
    obtain ⟨i0, hi0, hz0, hz1, hz2⟩ := info_parts ninfo8
    have HI := Lib.hid (And.intro hi0 (And.intro hz0 (And.intro hz1 hz2)))
    clear hl hs hlf hi0 hz0 hz1 hz2 ht hlong
    go_enter Tryd.func6, Tryd.ntmps6
    go_wp2_with fail
    refine HL.out.2.2.2.2.2.mono ?_
    rintro e w0 ⟨rfl, rfl⟩
    go_wp2_with fail
    go_loopw [3, 4] (fun v i wr => ∃ (k : Nat), k ≤ n ∧ i = .int .i64 k ∧ wr.ownsRow w.heap.size 5 1 v (partsB (l.take k)).length (u8s (partsB (l.take k))) ∧ Below w.heap.size w wr) (fun _ i _ => n - (intOf i).toNat)
    case atStart => exact ⟨0, by omega, rfl, ⟨rfl, .inl ⟨rfl, rfl⟩⟩, Below.refl _ _⟩
    case round =>
      obtain ⟨k, hk, rfl, hown, hb⟩ := hrel
      have hle := partsB_take_le l k HL.out.2.1 HL.out.2.2.1
      have hsz := hb.size
      by_cases hlt : k < n
      · obtain ⟨b, off, rfl, hblt, c0, c1, c2, hok⟩ := part_at (HL.out.1.below hb) hlt
        have hkl : k < l.length := by rw [HL.out.1.len]; exact hlt
        have hstep := partsB_succ hkl
        have htx := HL.out.2.1 _ (HL.out.1.mem_ hlt)
        obtain ⟨B, d, rfl⟩ := own_slice hown
        have hrel : ∀ (x : PartD) (bs : List UInt8) (v' : Value) (w1 w2 : World), l.getD k partK.zero = x → partB x = bs → Below wr.heap.size wr w1 → w2.ownsRow w.heap.size 5 1 v' ((partsB (l.take k)).length + bs.length) (u8s (partsB (l.take k)) ++ u8s bs) → w1.grownBy w2 (Value.slice B (partsB (l.take k)).length d).ownBlock → w2.ownsRow w.heap.size 5 1 v' (partsB (l.take (k + 1))).length (u8s (partsB (l.take (k + 1)))) ∧ Below w.heap.size w w2 := by
          intro x bs v' w1 w2 ex eb hb1 ho hg
          rw [hstep, ex, eb, u8s_append, List.length_append]
          have h1 := below_then hb hb1
          exact ⟨ho, h1.grown hg h1.size (fun j hj => own_ge hown hj)⟩
        generalize l.getD k partK.zero = x at *
        have hts := ba_size x.text
        unfold partB at hrel
        have hb8 := byteOf_wrap x.n
        have hw8 := made_one wr (byteOf x.n)
        rw [← hb8] at hw8
        have H := Lib.hid (And.intro hown (And.intro hrel (And.intro hok (And.intro htx (And.intro hb hw8)))))
        clear hown hrel hok htx hstep hb hb8 hw8
        by_cases k0 : x.kind = 0
        · have hg0 : (x.kind == 0) = true := by simp [k0]
          go_wp2_with fail
          refine (refNum_any x.n wr H.out.2.2.1.2.1).mono ?_
          rintro e w1 ⟨v1, rfl, ho1, hb1⟩
          obtain ⟨B1, d1, rfl⟩ := own_slice ho1
          have H1 := Lib.hid (And.intro (own_below H.out.1 hb1) (And.intro (BS.of_own ho1) hb1))
          have hs1 := hb1.size
          have hnl := Sl.numB_length x.n
          clear ho1 hb1
          go_wp2_with (at_builtin; refine wpList_append_bs _ rfl (.tmp 29) (.tmp 35) 22 rfl w.heap.size 5 i0 Tryd.underlying22 HI.out.1 HI.out.2.1 HI.out.2.2.1 HI.out.2.2.2 (.slice B _ d) _ _ rfl H1.out.1 B1 _ d1 _ rfl H1.out.2.1 (by omega) (by omega) ?_; intro v2 w2 hown2 hg2 hat2)
          have h2 := H.out.2.1 x _ v2 w1 w2 rfl (by rw [if_pos k0]) H1.out.2.2 hown2 hg2
          have H2 := Lib.hid h2
          clear h2 hown2 hg2 hat2
          go_roundw
          case rel => exact ⟨k + 1, by omega, by go_num, H2.out.1, H2.out.2⟩
          case measure => simp [intOf]; omega
        · have hg0 : (x.kind == 0) = false := by simp [k0]
          by_cases k1 : x.kind = 1
          · have hg1 : (x.kind == 1) = true := by simp [k1]
            go_wp2_with (at_builtin; refine wpList_append_bs _ rfl (.tmp 39) (.tmp 46) 22 rfl w.heap.size 5 i0 Tryd.underlying22 HI.out.1 HI.out.2.1 HI.out.2.2.1 HI.out.2.2.2 (.slice B _ d) _ _ rfl (H.out.1.alloc _) _ 1 1 [byteOf x.n] rfl H.out.2.2.2.2.2 (by omega) (by simp; omega) ?_; intro v2 w2 hown2 hg2 hat2)
            have h2 := H.out.2.1 x [byteOf x.n] v2 _ w2 rfl (by rw [if_neg k0, if_pos k1]) ((Below.refl _ _).alloc (Nat.le_refl _) _) hown2 hg2
            have H2 := Lib.hid h2
            clear h2 hown2 hg2 hat2
            go_roundw
            case rel => exact ⟨k + 1, by omega, by go_num, H2.out.1, H2.out.2⟩
            case measure => simp [intOf]; omega
          · have hg1 : (x.kind == 1) = false := by simp [k1]
            by_cases k2 : x.kind = 2
            · have hg2 : (x.kind == 2) = true := by simp [k2]
              by_cases hp : 0 < x.n
              · have hgp : decide (0 < x.n) = true := by simp [hp]
                have hm1 := made_one wr 1
                have HM := Lib.hid hm1
                clear hm1
                go_wp2_with (at_builtin; refine wpList_append_bs _ rfl (.tmp 56) (.tmp 57) 22 rfl w.heap.size 5 i0 Tryd.underlying22 HI.out.1 HI.out.2.1 HI.out.2.2.1 HI.out.2.2.2 (.slice B _ d) _ _ rfl (H.out.1.alloc _) _ 1 1 [1] rfl HM.out (by omega) (by simp; omega) ?_; intro v2 w2 hown2 hg2 hat2)
                have h2 := H.out.2.1 x [1] v2 _ w2 rfl (by rw [if_neg k0, if_neg k1, if_pos k2, if_pos hgp]) ((Below.refl _ _).alloc (Nat.le_refl _) _) hown2 hg2
                have H2 := Lib.hid h2
                clear h2 hown2 hg2 hat2
                go_roundw
                case rel => exact ⟨k + 1, by omega, by go_num, H2.out.1, H2.out.2⟩
                case measure => simp [intOf]; omega
              · have hgp : decide (0 < x.n) = false := by simp; omega
                have hm1 := made_one wr 0
                have HM := Lib.hid hm1
                clear hm1
                go_wp2_with (at_builtin; refine wpList_append_bs _ rfl (.tmp 59) (.tmp 60) 22 rfl w.heap.size 5 i0 Tryd.underlying22 HI.out.1 HI.out.2.1 HI.out.2.2.1 HI.out.2.2.2 (.slice B _ d) _ _ rfl (H.out.1.alloc _) _ 1 1 [0] rfl HM.out (by omega) (by simp; omega) ?_; intro v2 w2 hown2 hg2 hat2)
                have h2 := H.out.2.1 x [0] v2 _ w2 rfl (by rw [if_neg k0, if_neg k1, if_pos k2, if_neg (by rw [hgp]; simp)]) ((Below.refl _ _).alloc (Nat.le_refl _) _) hown2 hg2
                have H2 := Lib.hid h2
                clear h2 hown2 hg2 hat2
                go_roundw
                case rel => exact ⟨k + 1, by omega, by go_num, H2.out.1, H2.out.2⟩
                case measure => simp [intOf]; omega
            · have hg2 : (x.kind == 2) = false := by simp [k2]
              go_wp2_with fail
              refine (refText_any x.text wr (by have := H.out.2.2.2.1; omega)).mono ?_
              rintro e w1 ⟨v1, rfl, ho1, hb1⟩
              obtain ⟨B1, d1, rfl⟩ := own_slice ho1
              have H1 := Lib.hid (And.intro (own_below H.out.1 hb1) (And.intro (BS.of_own ho1) hb1))
              have hs1 := hb1.size
              have hnl : (Sl.textB x.text).length ≤ 400 := by have := Sl.numB_length x.text.length; have := H.out.2.2.2.1; rw [Sl.textB_length]; omega
              clear ho1 hb1
              go_wp2_with (at_builtin; refine wpList_append_bs _ rfl (.tmp 19) (.tmp 25) 22 rfl w.heap.size 5 i0 Tryd.underlying22 HI.out.1 HI.out.2.1 HI.out.2.2.1 HI.out.2.2.2 (.slice B _ d) _ _ rfl H1.out.1 B1 _ d1 _ rfl H1.out.2.1 (by omega) (by omega) ?_; intro v2 w2 hown2 hg2 hat2)
              have h2 := H.out.2.1 x _ v2 w1 w2 rfl (by rw [if_neg k0, if_neg k1, if_neg k2]) H1.out.2.2 hown2 hg2
              have H2 := Lib.hid h2
              clear h2 hown2 hg2 hat2
              go_roundw
              case rel => exact ⟨k + 1, by omega, by go_num, H2.out.1, H2.out.2⟩
              case measure => simp [intOf]; omega
      · obtain rfl : k = n := by omega
        rw [List.take_of_length_le (by rw [HL.out.1.len]; omega)] at hown hle
        obtain ⟨B, d, rfl⟩ := own_slice hown
        have H := Lib.hid (And.intro hown hb)
        clear hown hb
        go_wp2_with fail
        refine (written_any A k c l wr (HL.out.1.below H.out.2) hn hc HL.out.2.2.2.1).mono ?_
        rintro e w1 ⟨v1, rfl, ho1, hb1⟩
        obtain ⟨B1, d1, rfl⟩ := own_slice ho1
        have H1 := Lib.hid (And.intro (BS.of_own ho1) (And.intro ((BS.of_own H.out.1).below hb1) (below_then H.out.2 hb1)))
        clear ho1 hb1
        go_wp2_with fail
        refine (same_any B1 B _ _ d1 d (partsB l) (partsB l) w1 H1.out.1 H1.out.2.1 (by omega) (by omega)).mono ?_
        rintro e w2 ⟨rfl, hd2⟩
        have H2 := Lib.hid (below_then H1.out.2.2 hd2.below)
        clear hd2
        go_wp2_with fail
        refine (awake03_any w2 (HL.out.2.2.2.2.1.below H2.out)).mono ?_
        rintro e w3 ⟨rfl, hb3⟩
        have H3 := Lib.hid (below_then H2.out hb3)
        clear hb3
        go_wp2
        go_ret
        exact ⟨rfl, H3.out⟩
  · have hlong := long03_any A n c l w hl hn hc
    rw [hs] at hlong
    have H := Lib.hid (And.intro hlong ht)
    clear hlong ht hl hs
    go_enter Tryd.func6, Tryd.ntmps6
    go_wp2_with fail
    refine H.out.1.mono ?_
    rintro e w1 ⟨rfl, rfl⟩
    go_wp2_with fail
    refine (awake03_any w H.out.2).mono ?_
    rintro e w4 ⟨rfl, hb4⟩
    have H4 := Lib.hid hb4
    clear hb4
    go_wp2
    go_ret
    exact ⟨rfl, H4.out⟩

theorem own : ownKnob Tryd.prog.godebug = none := by kernel_rfl
theorem laidOut : laidOutB Tryd.prog = true := by kernel_rfl
theorem params_ok : ∀ t ∈ Tryd.f6.params.toList, Tryd.prog.readableRec t = true ∧ t < Tryd.prog.types.size := by
  rw [Tryd.params6]
  intro t ht
  have ht' : t = 39 := by
    simpa using ht
  subst ht'
  exact ⟨(show Tryd.prog.readableRec 39 = true by kernel_rfl), of_decide_eq_true (show decide (39 < Tryd.prog.types.size) = true by kernel_rfl)⟩
theorem gTab : Tryd.prog.globalNamed "troth/crc.half" = some 0 := by kernel_rfl
theorem gTabType : (Tryd.prog.globals[0]?).map (·.type) = some 87 := by kernel_rfl
theorem cellsTab : Tryd.prog.cellsOf 87 = 16 := by kernel_rfl
theorem cells32 : Tryd.prog.cellsOf 36 = 1 := by kernel_rfl
theorem table {W : World} (h : laidMetH Tryd.prog Rows.sealWritesRow.laid W) : Half W := by
  have h1 : Lib.TabIs Tryd.prog W "troth/crc.half" .u32 (Crc.tab.map (fun n : Nat => (n : Int))) :=
    Lib.tabIs_of_head (rest := []) gTab gTabType Tryd.underlying87 Tryd.underlying36 cells32 cellsTab h
  intro i hi
  have h2 := h1.cell gTab i (by rw [List.length_map]; exact hi)
  rw [h2]
  have hi' : i < Crc.tab.length := hi
  rw [List.getD_eq_getElem?_getD, List.getElem?_map, List.getD_eq_getElem?_getD, List.getElem?_eq_getElem hi']
  rfl

set_option maxRecDepth 100000 in
theorem contract (H : Type) (enc : TypeId × Value → H) (W : World) (base : Nat) (args : Array Value) (ds gs : List (DataW H)) (before : List MemPlace)
    (hval : ∀ (j : Nat) t v, Tryd.f6.params[j]? = some t → args[j]? = some v → Value.okWide Tryd.prog W .any base t v)
    (hW : DataW.Whole enc Tryd.prog Tryd.f6.params.toList Rows.sealWritesSpec.vars false W args.toList ds gs before) (hL : laidMetH Tryd.prog Rows.sealWritesRow.laid W) :
    Calls Tryd.prog 6 args W fun e W' => ∃ v, e = .returned v ∧ Rows.sealWritesSpec.post enc Tryd.prog Tryd.f6 false true false false W args v W' := by
  have hW' := hW
  obtain ⟨p, q, hA0, hV, rfl, hfz, hnd⟩ := hW
  have hA : DataW.TrodAll enc Tryd.prog W 0 (fun _ => true) true Tryd.f6.params.toList args.toList ds p := hA0
  rw [Tryd.params6] at hA hval
  obtain ⟨v0, vs0, d0, ds0, p0, q0, hargs, rfl, rfl, h0, r0⟩ := trodAll_cons hA
  obtain ⟨rfl, rfl, rfl⟩ := trodAll_nil r0
  obtain rfl : args = #[v0] := by cases args; simp_all
  obtain ⟨rfl, rfl⟩ := trodVars_none hV
  obtain ⟨A0, n0, c0, l0, rfl, lh0, nc0, cm0⟩ := open_structs (K := partK) Tryd.underlying39 (show Tryd.prog.cellsOf 42 = (partK).k by kernel_rfl) (by decide) part_cells (hval 0 39 v0 rfl rfl) h0
  refine (walk A0 n0 c0 l0 W lh0 nc0 cm0 (table hL)).mono fun e W' ⟨he, bel⟩ => ?_
  exact ⟨_, he, post_true laidOut Tryd.underlying4 (show Tryd.f6.resultTypes = #[4] from rfl) params_ok rfl hW' rfl bel⟩

noncomputable def laidWorld (os : Os) : World :=
  { World.holding Tryd.prog os ⟨#[], #[], []⟩ with heap := (World.holding Tryd.prog os ⟨#[], #[], []⟩).heap.modify 0 fun
      | .cells _ t frozen => .cells #[.int .u32 0, .int .u32 498536548, .int .u32 997073096, .int .u32 651767980, .int .u32 1994146192, .int .u32 1802195444, .int .u32 1303535960, .int .u32 1342533948, .int .u32 3988292384, .int .u32 4027552580, .int .u32 3604390888, .int .u32 3412177804, .int .u32 2607071920, .int .u32 2262029012, .int .u32 2685067896, .int .u32 3183342108] t frozen
      | o => o }
theorem laid_met (os : Os) : laidMet Tryd.prog Rows.sealWritesRow.laid ((laidWorld os).forCall (fun _ _ => 0) ⟨#[], #[.slice none 0 0], []⟩).memory :=
  laidMet_of_run' 8 (by kernel_rfl) (by kernel_rfl)
theorem reads (os : Os) {H : Type} (enc : TypeId × Value → H) : ∃ places, DataW.whole enc Tryd.prog ((laidWorld os).forCall (fun _ _ => 0) ⟨#[], #[.slice none 0 0], []⟩).memory Tryd.f6.params.toList Rows.sealWritesSpec.vars false (#[Value.slice none 0 0] : Array Value).toList 8 = some ([.nil], [], places) :=
  ⟨[], by kernel_rfl⟩
set_option maxRecDepth 100000 in
theorem lifted (os : Os) (started : os.Started) (H : Type) (enc : TypeId × Value → H) (F : Stop.Interp) :
    ReturnsInHanded {} Tryd.checked os 6 .any ((OpenSpec.ofChange Rows.sealWritesSpec).preRow enc Tryd.prog Tryd.f6 Rows.sealWritesRow.domain false Rows.sealWritesRow.laid) (((OpenSpec.ofChange Rows.sealWritesSpec).at F).post enc Tryd.prog Tryd.f6 false true false false) := by
  obtain ⟨places, hx⟩ := reads os enc
  refine returnsInHanded_of_row (C := Tryd.checked) (s := OpenSpec.ofChange Rows.sealWritesSpec) own started (by kernel_rfl) Tryd.func6
    (witness_row_at (enc := enc) (C := Tryd.checked) false (laidWorld os) #[.slice none 0 0] rfl (by kernel_rfl) (by kernel_rfl) (by kernel_rfl)
      (OpenSpec.preRow_of_cond 8 hx (by kernel_rfl) (fun k hk => by cases hk) (by kernel_rfl) (laid_met os))) ?_
  intro W base args ds gs before hval hW _ _ hsz hL _ _
  exact contract H enc W base args ds gs before hval hW hL
theorem said : Rows.SealWritesSaid :=
  OpenClaim.holds_of_cond 6 Tryd.f6 rfl rfl rfl rfl rfl rfl rfl ⟨rfl, rfl, rfl, rfl, rfl⟩ rfl rfl rfl rfl rfl (by kernel_rfl) Tryd.func6 (by kernel_rfl)
    (of_decide_eq_true (by kernel_rfl)) (by unfold Func.isWrapper; first | (rw [if_pos (by decide +kernel)]; kernel_rfl) | (rw [if_neg (by decide +kernel)]; exact ⟨rfl, rfl⟩))
    (fun os started H enc _ F => by rw [OpenClaim.pre_eq_preRow]; exact lifted os started H enc F)
theorem plain (f : FuncId) (fn : Func) (hf : Tryd.pinned.checked.prog.funcNamed "troth/trothlaw03.SealWrites" = some f) (hfn : Tryd.pinned.checked.prog.funcs[f]? = some fn) :
    false = Tryd.pinned.checked.prog.looks [] ∧ ∀ (j : Nat) t, fn.params[j]? = some t → Tryd.pinned.checked.prog.wantsStandIn t = false := by
  obtain rfl : f = 6 := Option.some.inj ((show Tryd.prog.funcNamed "troth/trothlaw03.SealWrites" = some 6 by kernel_rfl).symm.trans hf) |>.symm
  obtain rfl : fn = Tryd.f6 := (Option.some.inj (Tryd.func6.symm.trans hfn)).symm
  refine ⟨by kernel_rfl, fun j t ht => ?_⟩
  rw [Tryd.params6] at ht
  have ht' : t = 39 := by simpa using Array.mem_of_getElem? ht
  subst ht'
  exact (show Tryd.prog.wantsStandIn 39 = false by kernel_rfl)
theorem card : Rows.SealWritesCardSaid :=
  Claim7.holds_tied_plain_at .later [] _ _ _ _ said (fun _ h => by cases h) (by kernel_rfl) (fun _ h => by cases h) sealWrites_row_tie rfl ⟨rfl, rfl⟩ (by kernel_rfl) rfl plain (by kernel_rfl)
#print axioms card
end Go.Proofs.YtbghpdfhloalhaaDoor.sealWrites
