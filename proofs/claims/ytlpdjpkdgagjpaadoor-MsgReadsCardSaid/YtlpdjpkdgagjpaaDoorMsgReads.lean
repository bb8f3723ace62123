/- MsgReads: whatever bytes there are, they are a message just where the document says so; what is read has just these bytes; no condition. -/
import Derived.Test.YtlpdjpkdgagjpaaDoorRefMsgDec
import Derived.Test.YtlpdjpkdgagjpaaDoorMsgOpen
import Derived.Test.YtlpdjpkdgagjpaaDoorSame
import Derived.Test.YtlpdjpkdgagjpaaDoorLift
import Derived.Test.YtlpdjpkdgagjpaaDoorCards
import Derived.Test.YtlpdjpkdgagjpaaDoorTie
import Derived.Lib.LaidTab
import Derived.Deep.RegionHeld3
import Derived.Deep.DeepMust
namespace Go.Proofs.YtlpdjpkdgagjpaaDoor.msgReads
open Go.ChangeShapes Go.WideShapes Go.ChangeAt Go.RowKit Mem Lift
set_option maxRecDepth 100000
set_option linter.unusedVariables false
set_option linter.unusedSimpArgs false
attribute [local go_sem ↓] Go.wp_at_zero Go.wp_at_succ

theorem dec_cases (b : List UInt8) : (Mg.dec b).2 ≠ 0 ∨ (Mg.dec b).2 = 0 ∧ Mg.enc (Mg.dec b).1 = (b, 0) ∧ Mg.Nums (Mg.dec b).1 ∧ (Mg.dec b).1.mem.length ≤ 8 := by
  by_cases h : (Mg.dec b).2 = 0
  · obtain ⟨h1, h2⟩ := Mg.dec_ok (b := b) (m := (Mg.dec b).1) (by rw [← h])
    exact .inr ⟨h, h2, Mg.may_nums h1, (Mg.may_vals h1).2.2.1⟩
  · exact .inl h
theorem dec_mem (b : List UInt8) : (Mg.dec b).1.mem.length ≤ 8 := by
  rcases dec_cases b with h | h
  · have : (Mg.dec b).1 = Mg.zero := by
      unfold Mg.dec at h ⊢
      split
      · rfl
      · split
        · rfl
        · rename_i h1 h2
          rw [if_neg h1, if_neg h2] at h
          unfold Mg.decS at h ⊢
          split
          · rfl
          · rename_i h3
            rw [if_neg h3] at h
            split
            · rename_i h4
              rw [if_pos h4] at h
              exact absurd rfl h
            · rfl
    rw [this]
    simp [Mg.zero]
  · exact h.2.2.2
set_option maxHeartbeats 16000000 in
theorem walk (A : Option Addr) (n cap : Nat) (bs : List UInt8) (w : World) (hbs : BS w A n bs) (hnc : n ≤ cap) (hm : cap ≤ maxLen) (ht : Half w) :
    Calls Tryd.prog 9 #[.slice A n cap] w fun e w' => e = .returned (.bool true) ∧ Below w.heap.size w w' := by
  unfold maxLen at hm
  by_cases h5 : 500 < n
  · have hd5 : decide ((500 : Int) < (n : Int)) = true := by simp; omega
    have HH := Lib.hid ht
    clear ht hbs
    go_enter Tryd.func9, Tryd.ntmps9
    go_wp2_with fail
    refine (awake19_any _ HH.out).mono ?_
    rintro e w1 ⟨rfl, hb1⟩
    have H1 := Lib.hid hb1
    clear hb1
    go_wp2_with fail
    go_ret
    exact ⟨rfl, H1.out⟩
  · have hd5 : decide ((500 : Int) < (n : Int)) = false := by simp; omega
    have hcase := dec_cases bs
    have hml := dec_mem bs
    obtain ⟨D, hD⟩ : ∃ D, Mg.dec bs = D := ⟨_, rfl⟩
    rw [hD] at hcase hml
    obtain ⟨m, ec⟩ := D
    simp only at hcase hml
    obtain ⟨i0, hi0, hz0, hz1, hz2⟩ := info_parts ninfo8
    have HI := Lib.hid (And.intro hi0 (And.intro hz0 (And.intro hz1 hz2)))
    have ho0 : (w.alloc (.cells #[] 5)).ownsRow w.heap.size 5 1 (.slice (some ⟨w.heap.size, 0, none⟩) 0 0) 0 [] := World.ownsRow_made w #[] 0 (Nat.le_refl _) (by simp [maxLen]) (by simp)
    have H := Lib.hid (And.intro hbs (And.intro ht (And.intro hD (And.intro hbs.1 (And.intro ho0 (hbs.below ((Below.refl _ w).alloc (Nat.le_refl _) (.cells #[] 5))))))))
    clear hbs ht hD hi0 hz0 hz1 hz2 ho0
    go_enter Tryd.func9, Tryd.ntmps9
    go_upto_region 3 with fail
    go_wp2_with (at_builtin; refine wpList_append_bs _ rfl (.tmp 14) (.tmp 15) 38 rfl w.heap.size 5 i0 Tryd.underlying38 HI.out.1 HI.out.2.1 HI.out.2.2.1 HI.out.2.2.2 (.slice (some ⟨w.heap.size, 0, none⟩) 0 0) 0 [] rfl H.out.2.2.2.2.1 A n cap bs rfl H.out.2.2.2.2.2 (by omega) (by simp) ?_; intro v1 w1 hown1 hg1 hat1; obtain ⟨A1, c1, rfl⟩ := own_slice hown1; have hcap1 := own_capI hown1; have hb1 : Below w.heap.size w w1 := ((Below.refl _ _).alloc (Nat.le_refl _) _).grown hg1 (by simp) (by simp [Value.ownBlock]); have H1 := Lib.hid (And.intro hown1 hb1); clear hown1 hg1 hat1 hb1)
    have hdec1 := mdec_any A1 n c1 bs w1 (by have := H1.out.1; rw [Nat.zero_add, List.nil_append] at this; exact BS.of_own this) (by omega) (by have := hcap1.1; omega) hcap1.2 (H.out.2.1.below H1.out.2)
    rw [H.out.2.2.1] at hdec1
    refine hdec1.mono ?_
    clear hdec1
    rintro e w2 ⟨A2, k2, rfl, hi2, hk2a, hk2b, hb2⟩
    simp only at hi2 hk2a ⊢
    generalize hL : m.mem.length = L at *
    have hbw2 := H1.out.2.trans (hb2.mono H1.out.2.size)
    have hb3 : Below w2.heap.size w2 (w2.alloc (.cells (mgCells m A2 L k2) 60)) := (Below.refl _ _).alloc (Nat.le_refl _) _
    have H2 := Lib.hid (And.intro (hi2.below hb3) (And.intro (Blk.new w2 60 (mgCells m A2 L k2)) (And.intro (hbw2.trans (hb3.mono hbw2.size)) hL)))
    clear hi2 hb2 hbw2 hb3 hL
    go_wp2_with fail
    generalize w2.alloc (.cells (mgCells m A2 L k2) 60) = w3 at *
    generalize w2.heap.size = r1 at *
    have hdec2 := rdec19_any A n cap bs w3 (H.out.1.below H2.out.2.2.1) (by omega) hnc (by omega)
    rw [H.out.2.2.1] at hdec2
    refine hdec2.mono ?_
    clear hdec2
    rintro e w4 ⟨A4, k4, rfl, hi4, hk4a, hk4b, hb4⟩
    simp only [H2.out.2.2.2] at hi4 hk4a ⊢
    have hbw4 := H2.out.2.2.1.trans (hb4.mono H2.out.2.2.1.size)
    have hb5 : Below w4.heap.size w4 (w4.alloc (.cells (mgCells m A4 L k4) 60)) := (Below.refl _ _).alloc (Nat.le_refl _) _
    have hm4 := H2.out.2.1.below hb4 H2.out.2.1.lt
    have hrlt := hm4.lt
    have H4 := Lib.hid (And.intro ((H2.out.1.below hb4).below hb5) (And.intro (hi4.below hb5) (And.intro (hm4.below hb5 hm4.lt) (And.intro (Blk.new w4 60 (mgCells m A4 L k4)) (hbw4.trans (hb5.mono hbw4.size))))))
    have hs5 : (w4.alloc (.cells (mgCells m A4 L k4) 60)).heap.size = w4.heap.size + 1 := by simp
    obtain ⟨c0, c1', c2, c3, c4⟩ := mg_cells hm4
    clear hi4 hb4 hbw4 hb5 hm4
    go_wp2_with fail
    generalize w4.alloc (.cells (mgCells m A4 L k4) 60) = w5 at *
    have hsame := same19_eq m A2 A4 L k2 k4 w5 (by rw [← H2.out.2.2.2]; rw [H2.out.2.2.2]; exact H4.out.1) H4.out.2.1 (by omega)
    refine hsame.mono ?_
    clear hsame
    rintro e w6 ⟨rfl, hb6⟩
    have hm6 := H4.out.2.2.1.below hb6 (by omega)
    have hbw6 := H4.out.2.2.2.2.trans (hb6.mono H4.out.2.2.2.2.size)
    obtain ⟨d0, d1, d2, d3, d4⟩ := mg_cells hm6
    have H6 := Lib.hid (And.intro (H4.out.1.below hb6) hbw6)
    clear hb6 hm6 hbw6 c0 c1' c2 c3 c4
    rcases hcase with hz | ⟨hz, he, hnu, _⟩
    · have e1 : ((ec : Int) == 0) = false := by rw [beq_eq_false_iff_ne]; omega
      clear hz
      go_wp2_with fail
      refine (awake19_any _ (H.out.2.1.below H6.out.2)).mono ?_
      rintro e w7 ⟨rfl, hb7⟩
      have H7 := Lib.hid (H6.out.2.trans (hb7.mono H6.out.2.size))
      clear hb7
      go_wp2_with fail
      go_ret
      exact ⟨rfl, H7.out⟩
    · have e1 : ((ec : Int) == 0) = true := by rw [hz]; rfl
      have hen := menc_any m A2 L k2 w6 H6.out.1 (by omega) hk2b hnu (H.out.2.1.below H6.out.2)
      rw [he] at hen
      have HEN := Lib.hid hen
      clear hen he hnu hz
      go_wp2_with fail
      refine HEN.out.mono ?_
      rintro e w7 ⟨v7, rfl, ho7, hb7⟩
      obtain ⟨A7, k7, rfl⟩ := own_slice ho7
      simp only [H.out.2.2.2.1] at ho7 ⊢
      have H7 := Lib.hid (And.intro (BS.of_own ho7) (H6.out.2.trans (hb7.mono H6.out.2.size)))
      clear ho7 hb7
      go_wp2_with fail
      refine (same_any A7 A n n k7 cap bs bs w7 H7.out.1 (H.out.1.below H7.out.2) (by omega) (by omega)).mono ?_
      rw [decide_eq_true rfl]
      rintro e w8 ⟨rfl, hd8⟩
      have H8 := Lib.hid (H7.out.2.trans (hd8.below.mono H7.out.2.size))
      clear hd8
      go_wp2_with fail
      refine (awake19_any _ (H.out.2.1.below H8.out)).mono ?_
      rintro e w9 ⟨rfl, hb9⟩
      have H9 := Lib.hid (H8.out.trans (hb9.mono H8.out.size))
      clear hb9
      go_wp2_with fail
      go_ret
      exact ⟨rfl, H9.out⟩

theorem own : ownKnob Tryd.prog.godebug = none := by kernel_rfl
theorem laidOut : laidOutB Tryd.prog = true := by kernel_rfl
theorem params_ok : ∀ t ∈ Tryd.f9.params.toList, Tryd.prog.readableRec t = true ∧ t < Tryd.prog.types.size := by
  rw [Tryd.params9]
  intro t ht
  have ht' : t = 38 := by
    simpa using ht
  subst ht'
  exact ⟨(show Tryd.prog.readableRec 38 = true by kernel_rfl), of_decide_eq_true (show decide (38 < Tryd.prog.types.size) = true by kernel_rfl)⟩
theorem gTab : Tryd.prog.globalNamed "troth/crc.half" = some 0 := by kernel_rfl
theorem gTabType : (Tryd.prog.globals[0]?).map (·.type) = some 172 := by kernel_rfl
theorem cellsTab : Tryd.prog.cellsOf 172 = 16 := by kernel_rfl
theorem cells32 : Tryd.prog.cellsOf 71 = 1 := by kernel_rfl
theorem table {W : World} (h : laidMetH Tryd.prog Rows.msgReadsRow.laid W) : Half W := by
  have h1 : Lib.TabIs Tryd.prog W "troth/crc.half" .u32 (Crc.tab.map (fun n : Nat => (n : Int))) :=
    Lib.tabIs_of_head (rest := []) gTab gTabType Tryd.underlying172 Tryd.underlying71 cells32 cellsTab h
  intro i hi
  have h2 := h1.cell gTab i (by rw [List.length_map]; exact hi)
  rw [h2]
  have hi' : i < Crc.tab.length := hi
  rw [List.getD_eq_getElem?_getD, List.getElem?_map, List.getD_eq_getElem?_getD, List.getElem?_eq_getElem hi']
  rfl

set_option maxRecDepth 100000 in
theorem contract (H : Type) (enc : TypeId × Value → H) (W : World) (base : Nat) (args : Array Value) (ds gs : List (DataW H)) (before : List MemPlace)
    (hval : ∀ (j : Nat) t v, Tryd.f9.params[j]? = some t → args[j]? = some v → Value.okWide Tryd.prog W .any base t v)
    (hW : DataW.Whole enc Tryd.prog Tryd.f9.params.toList Rows.msgReadsSpec.vars false W args.toList ds gs before) (hL : laidMetH Tryd.prog Rows.msgReadsRow.laid W) :
    Calls Tryd.prog 9 args W fun e W' => ∃ v, e = .returned v ∧ Rows.msgReadsSpec.post enc Tryd.prog Tryd.f9 false true false false W args v W' := by
  have hW' := hW
  obtain ⟨p, q, hA0, hV, rfl, hfz, hnd⟩ := hW
  have hA : DataW.TrodAll enc Tryd.prog W 0 (fun _ => true) true Tryd.f9.params.toList args.toList ds p := hA0
  rw [Tryd.params9] at hA hval
  obtain ⟨v0, vs0, d0, ds0, p0, q0, hargs, rfl, rfl, h0, r0⟩ := trodAll_cons hA
  obtain ⟨rfl, rfl, rfl⟩ := trodAll_nil r0
  obtain rfl : args = #[v0] := by cases args; simp_all
  obtain ⟨rfl, rfl⟩ := trodVars_none hV
  obtain ⟨A0, n0, c0, bs0, rfl, bs0h, nc0, cm0, dd0⟩ := open_bytes Tryd.underlying38 Tryd.underlying5 (show Tryd.prog.cellsOf 5 = 1 by kernel_rfl) (hval 0 38 v0 rfl rfl) h0
  refine (walk A0 n0 c0 bs0 W bs0h nc0 cm0 (table hL)).mono fun e W' ⟨he, bel⟩ => ?_
  exact ⟨_, he, post_true laidOut Tryd.underlying4 (show Tryd.f9.resultTypes = #[4] from rfl) params_ok rfl hW' rfl bel⟩

noncomputable def laidWorld (os : Os) : World :=
  { World.holding Tryd.prog os ⟨#[], #[], []⟩ with heap := (World.holding Tryd.prog os ⟨#[], #[], []⟩).heap.modify 0 fun
      | .cells _ t frozen => .cells #[.int .u32 0, .int .u32 498536548, .int .u32 997073096, .int .u32 651767980, .int .u32 1994146192, .int .u32 1802195444, .int .u32 1303535960, .int .u32 1342533948, .int .u32 3988292384, .int .u32 4027552580, .int .u32 3604390888, .int .u32 3412177804, .int .u32 2607071920, .int .u32 2262029012, .int .u32 2685067896, .int .u32 3183342108] t frozen
      | o => o }
theorem laid_met (os : Os) : laidMet Tryd.prog Rows.msgReadsRow.laid ((laidWorld os).forCall (fun _ _ => 0) ⟨#[], #[.slice none 0 0], []⟩).memory :=
  laidMet_of_run' 8 (by kernel_rfl) (by kernel_rfl)
theorem reads (os : Os) {H : Type} (enc : TypeId × Value → H) : ∃ places, DataW.whole enc Tryd.prog ((laidWorld os).forCall (fun _ _ => 0) ⟨#[], #[.slice none 0 0], []⟩).memory Tryd.f9.params.toList Rows.msgReadsSpec.vars false (#[Value.slice none 0 0] : Array Value).toList 8 = some ([.nil], [], places) :=
  ⟨[], by kernel_rfl⟩
set_option maxRecDepth 100000 in
theorem lifted (os : Os) (started : os.Started) (H : Type) (enc : TypeId × Value → H) (F : Stop.Interp) :
    ReturnsInHanded {} Tryd.checked os 9 .any ((OpenSpec.ofChange Rows.msgReadsSpec).preRow enc Tryd.prog Tryd.f9 Rows.msgReadsRow.domain false Rows.msgReadsRow.laid) (((OpenSpec.ofChange Rows.msgReadsSpec).at F).post enc Tryd.prog Tryd.f9 false true false false) := by
  obtain ⟨places, hx⟩ := reads os enc
  refine returnsInHanded_of_row (C := Tryd.checked) (s := OpenSpec.ofChange Rows.msgReadsSpec) own started (by kernel_rfl) Tryd.func9
    (witness_row_at (enc := enc) (C := Tryd.checked) false (laidWorld os) #[.slice none 0 0] rfl (by kernel_rfl) (by kernel_rfl) (by kernel_rfl)
      (OpenSpec.preRow_of_cond 8 hx (by kernel_rfl) (fun k hk => by cases hk) (by kernel_rfl) (laid_met os))) ?_
  intro W base args ds gs before hval hW _ _ hsz hL _ _
  exact contract H enc W base args ds gs before hval hW hL
theorem said : Rows.MsgReadsSaid :=
  OpenClaim.holds_of_cond 9 Tryd.f9 rfl rfl rfl rfl rfl rfl rfl ⟨rfl, rfl, rfl, rfl, rfl⟩ rfl rfl rfl rfl rfl (by kernel_rfl) Tryd.func9 (by kernel_rfl)
    (of_decide_eq_true (by kernel_rfl)) (by unfold Func.isWrapper; first | (rw [if_pos (by decide +kernel)]; kernel_rfl) | (rw [if_neg (by decide +kernel)]; exact ⟨rfl, rfl⟩))
    (fun os started H enc _ F => by rw [OpenClaim.pre_eq_preRow]; exact lifted os started H enc F)
theorem plain (f : FuncId) (fn : Func) (hf : Tryd.pinned.checked.prog.funcNamed "troth/trothlaw19.MsgReads" = some f) (hfn : Tryd.pinned.checked.prog.funcs[f]? = some fn) :
    false = Tryd.pinned.checked.prog.looks [] ∧ ∀ (j : Nat) t, fn.params[j]? = some t → Tryd.pinned.checked.prog.wantsStandIn t = false := by
  obtain rfl : f = 9 := Option.some.inj ((show Tryd.prog.funcNamed "troth/trothlaw19.MsgReads" = some 9 by kernel_rfl).symm.trans hf) |>.symm
  obtain rfl : fn = Tryd.f9 := (Option.some.inj (Tryd.func9.symm.trans hfn)).symm
  refine ⟨by kernel_rfl, fun j t ht => ?_⟩
  rw [Tryd.params9] at ht
  have ht' : t = 38 := by simpa using Array.mem_of_getElem? ht
  subst ht'
  exact (show Tryd.prog.wantsStandIn 38 = false by kernel_rfl)
theorem card : Rows.MsgReadsCardSaid :=
  Claim7.holds_tied_plain_at .later [] _ _ _ _ said (fun _ h => by cases h) (by kernel_rfl) (fun _ h => by cases h) msgReads_row_tie rfl ⟨rfl, rfl⟩ (by kernel_rfl) rfl plain (by kernel_rfl)
#print axioms card
end Go.Proofs.YtlpdjpkdgagjpaaDoor.msgReads
