/- SealCuts: of no beginning of a sealed body one is opened; no condition. -/
import Derived.Test.YtbghpdfhloalhaaDoorAwake03
import Derived.Test.YtbghpdfhloalhaaDoorOwn03
import Derived.Test.YtbghpdfhloalhaaDoorLift
import Derived.Test.YtbghpdfhloalhaaDoorCards
import Derived.Test.YtbghpdfhloalhaaDoorTie
import Derived.Lib.LaidTab
namespace Go.Proofs.YtbghpdfhloalhaaDoor.sealCuts
open Go.ChangeShapes Go.WideShapes Go.ChangeAt Go.RowKit Mem Lift
set_option linter.unusedVariables false
set_option linter.unusedSimpArgs false

theorem own_cap {w : World} {base : Nat} {e : TypeId} {size n c : Nat} {A : Option Addr} {xs : List Value} (h : w.ownsRow base e size (.slice A n c) n xs) : n ≤ c ∧ c ≤ 9223372036854775807 := by
  rcases h.2 with ⟨e0, e1⟩ | ⟨g, cap, cur, e0, _, _, h1, h2, _⟩
  · injection e0; omega
  · injection e0; unfold maxLen at h2; omega
set_option maxHeartbeats 4000000 in
theorem walk (A : Option Addr) (n cap : Nat) (bs : List UInt8) (cut : Int) (w : World) (hbs : BS w A n bs) (hnc : n ≤ cap) (hm : cap ≤ maxLen) (h1 : -9223372036854775808 ≤ cut) (h2 : cut ≤ 9223372036854775807) (ht : Half w) :
    Calls Tryd.prog 4 #[.slice A n cap, .int .i64 cut] w fun e w' => e = .returned (.bool true) ∧ Below w.heap.size w w' := by
  unfold maxLen at hm
  by_cases hl : n ≤ 1000 ∧ 0 ≤ cut
  · obtain ⟨hl, h0⟩ := hl
    obtain ⟨m, rfl⟩ := Int.eq_ofNat_of_zero_le h0
    have e1 : Sl.sealE bs = (Sl.sealB bs, 0) := by unfold Sl.sealE; rw [hbs.1, if_neg (by omega)]
    have hL : 0 < (Sl.sealB bs).length ∧ (Sl.sealB bs).length ≤ 5000 := by
      rw [Sl.sealB_length, Sl.textB_length, hbs.1]
      have := Sl.numB_length n
      omega
    have hcut := Sl.open_cut bs (m % (Sl.sealB bs).length) (by rw [hbs.1]; omega) (Nat.mod_lt _ hL.1)
    have hg : decide ((1000 : Int) < (n : Int)) = false := by simp; omega
    have hg2 : decide ((m : Int) < 0) = false := by simp
    have H := Lib.hid (And.intro hbs (And.intro ht (And.intro e1 (And.intro hcut hbs.1))))
    clear hbs ht e1 hcut
    go_enter Tryd.func4, Tryd.ntmps4
    go_wp2_with fail
    refine (own03_any A n cap bs w H.out.1 (by omega)).mono ?_
    rintro e w1 ⟨v, rfl, ho1, hb1⟩
    rw [H.out.2.2.2.2] at ho1
    obtain ⟨A1, c1, rfl⟩ := own_slice ho1
    have hs := seal_any A1 n c1 bs w1 (BS.of_own ho1) (by omega) (H.out.2.1.below hb1)
    rw [H.out.2.2.1] at hs
    have H1 := Lib.hid (And.intro hb1 hs)
    clear ho1 hb1 hs
    go_wp2_with fail
    refine H1.out.2.mono ?_
    rintro e w2 ⟨v, rfl, ho2, hb2⟩
    obtain ⟨A2, c2, rfl⟩ := own_slice ho2
    simp only at ho2
    have hc2 := own_cap ho2
    have hb2' : Below w.heap.size w w2 := H1.out.1.trans (hb2.mono H1.out.1.size)
    have hB2 := BS.of_own ho2
    have hcutx := H.out.2.2.2.1
    generalize Sl.sealB bs = x at *
    have hmod : m % x.length < x.length := Nat.mod_lt _ hL.1
    have hop := open_any A2 (m % x.length) c2 (x.take (m % x.length)) w2 (hB2.take_ _ (by omega)) (by omega) (by omega) hc2.2 (H.out.2.1.below hb2')
    rw [hcutx] at hop
    have hch := fun W => cut_h A2 x.length c2 (m % x.length) ((m : Int) % (x.length : Int)) (by omega) (by omega) W
    have hne : ((x.length : Int) == 0) = false := by rw [beq_eq_false_iff_ne]; omega
    have hmi : 0 ≤ (m : Int) % (x.length : Int) ∧ (m : Int) % (x.length : Int) < (x.length : Int) := by omega
    have H2 := Lib.hid (And.intro hop hb2')
    clear ho2 hb2 hb2' hB2 hop hcutx hmod
    go_wp2_with fail
    refine H2.out.1.mono ?_
    rintro e w3 ⟨A3, c3, rfl, _, _, _, hb3, _⟩
    have H3 := Lib.hid (H2.out.2.trans (hb3.mono H2.out.2.size))
    clear hb3
    go_wp2_with fail
    refine (awake03_any w3 (H.out.2.1.below H3.out)).mono ?_
    rintro e w4 ⟨rfl, hb4⟩
    have H4 := Lib.hid (H3.out.trans (hb4.mono H3.out.size))
    clear hb4
    go_wp2
    go_ret
    exact ⟨rfl, H4.out⟩
  · have H := Lib.hid (And.intro hbs ht)
    clear hbs ht
    have hca : decide ((1000 : Int) < (n : Int)) = true ∨ (decide ((1000 : Int) < (n : Int)) = false ∧ decide (cut < 0) = true) := by
      by_cases h3 : n ≤ 1000
      · right; exact ⟨by simp; omega, by simp; omega⟩
      · left; simp; omega
    clear hl
    rcases hca with hg | ⟨hg, hg2⟩
    all_goals
      go_enter Tryd.func4, Tryd.ntmps4
      go_wp2_with fail
      refine (awake03_any w H.out.2).mono ?_
      rintro e w4 ⟨rfl, hb4⟩
      have H4 := Lib.hid hb4
      clear hb4
      go_wp2
      go_ret
      exact ⟨rfl, H4.out⟩

theorem own : ownKnob Tryd.prog.godebug = none := by kernel_rfl
theorem laidOut : laidOutB Tryd.prog = true := by kernel_rfl
theorem params_ok : ∀ t ∈ Tryd.f4.params.toList, Tryd.prog.readableRec t = true ∧ t < Tryd.prog.types.size := by
  rw [Tryd.params4]
  intro t ht
  have ht' : t = 22 ∨ t = 3 := by
    simpa using ht
  rcases ht' with rfl | rfl
  · exact ⟨(show Tryd.prog.readableRec 22 = true by kernel_rfl), of_decide_eq_true (show decide (22 < Tryd.prog.types.size) = true by kernel_rfl)⟩
  · exact ⟨(show Tryd.prog.readableRec 3 = true by kernel_rfl), of_decide_eq_true (show decide (3 < Tryd.prog.types.size) = true by kernel_rfl)⟩
theorem gTab : Tryd.prog.globalNamed "troth/crc.half" = some 0 := by kernel_rfl
theorem gTabType : (Tryd.prog.globals[0]?).map (·.type) = some 87 := by kernel_rfl
theorem cellsTab : Tryd.prog.cellsOf 87 = 16 := by kernel_rfl
theorem cells32 : Tryd.prog.cellsOf 36 = 1 := by kernel_rfl
theorem table {W : World} (h : laidMetH Tryd.prog Rows.sealCutsRow.laid W) : Half W := by
  have h1 : Lib.TabIs Tryd.prog W "troth/crc.half" .u32 (Crc.tab.map (fun n : Nat => (n : Int))) :=
    Lib.tabIs_of_head (rest := []) gTab gTabType Tryd.underlying87 Tryd.underlying36 cells32 cellsTab h
  intro i hi
  have h2 := h1.cell gTab i (by rw [List.length_map]; exact hi)
  rw [h2]
  have hi' : i < Crc.tab.length := hi
  rw [List.getD_eq_getElem?_getD, List.getElem?_map, List.getD_eq_getElem?_getD, List.getElem?_eq_getElem hi']
  rfl

set_option maxRecDepth 100000 in
theorem contract (H : Type) (enc : TypeId × Value → H) (W : World) (base : Nat) (args : Array Value) (ds gs : List (DataW H)) (before : List MemPlace)
    (hval : ∀ (j : Nat) t v, Tryd.f4.params[j]? = some t → args[j]? = some v → Value.okWide Tryd.prog W .any base t v)
    (hW : DataW.Whole enc Tryd.prog Tryd.f4.params.toList Rows.sealCutsSpec.vars false W args.toList ds gs before) (hL : laidMetH Tryd.prog Rows.sealCutsRow.laid W) :
    Calls Tryd.prog 4 args W fun e W' => ∃ v, e = .returned v ∧ Rows.sealCutsSpec.post enc Tryd.prog Tryd.f4 false true false false W args v W' := by
  have hW' := hW
  obtain ⟨p, q, hA0, hV, rfl, hfz, hnd⟩ := hW
  have hA : DataW.TrodAll enc Tryd.prog W 0 (fun _ => true) true Tryd.f4.params.toList args.toList ds p := hA0
  rw [Tryd.params4] at hA hval
  obtain ⟨v0, vs0, d0, ds0, p0, q0, hargs, rfl, rfl, h0, r0⟩ := trodAll_cons hA
  obtain ⟨v1, vs1, d1, ds1, p1, q1, rfl, rfl, rfl, h1, r1⟩ := trodAll_cons r0
  obtain ⟨rfl, rfl, rfl⟩ := trodAll_nil r1
  obtain rfl : args = #[v0, v1] := by cases args; simp_all
  obtain ⟨rfl, rfl⟩ := trodVars_none hV
  obtain ⟨A0, n0, c0, bs0, rfl, bs0h, nc0, cm0, dd0⟩ := open_bytes Tryd.underlying22 Tryd.underlying5 (show Tryd.prog.cellsOf 5 = 1 by kernel_rfl) (hval 0 22 v0 rfl rfl) h0
  obtain ⟨x1, rfl, rfl, rfl, w1⟩ := open_int Tryd.underlying3 (hval 1 3 v1 rfl rfl) h1
  have b1 := bounds_i64 w1
  refine (walk A0 n0 c0 bs0 x1 W bs0h nc0 cm0 b1.1 b1.2 (table hL)).mono fun e W' ⟨he, bel⟩ => ?_
  exact ⟨_, he, post_true laidOut Tryd.underlying4 (show Tryd.f4.resultTypes = #[4] from rfl) params_ok rfl hW' rfl bel⟩

noncomputable def laidWorld (os : Os) : World :=
  { World.holding Tryd.prog os ⟨#[], #[], []⟩ with heap := (World.holding Tryd.prog os ⟨#[], #[], []⟩).heap.modify 0 fun
      | .cells _ t frozen => .cells #[.int .u32 0, .int .u32 498536548, .int .u32 997073096, .int .u32 651767980, .int .u32 1994146192, .int .u32 1802195444, .int .u32 1303535960, .int .u32 1342533948, .int .u32 3988292384, .int .u32 4027552580, .int .u32 3604390888, .int .u32 3412177804, .int .u32 2607071920, .int .u32 2262029012, .int .u32 2685067896, .int .u32 3183342108] t frozen
      | o => o }
theorem laid_met (os : Os) : laidMet Tryd.prog Rows.sealCutsRow.laid ((laidWorld os).forCall (fun _ _ => 0) ⟨#[], #[.slice none 0 0, .int .i64 0], []⟩).memory :=
  laidMet_of_run' 8 (by kernel_rfl) (by kernel_rfl)
theorem reads (os : Os) {H : Type} (enc : TypeId × Value → H) : ∃ places, DataW.whole enc Tryd.prog ((laidWorld os).forCall (fun _ _ => 0) ⟨#[], #[.slice none 0 0, .int .i64 0], []⟩).memory Tryd.f4.params.toList Rows.sealCutsSpec.vars false (#[Value.slice none 0 0, Value.int .i64 0] : Array Value).toList 8 = some ([.nil, .lit (.int .i64 0)], [], places) :=
  ⟨[], by kernel_rfl⟩
set_option maxRecDepth 100000 in
theorem lifted (os : Os) (started : os.Started) (H : Type) (enc : TypeId × Value → H) (F : Stop.Interp) :
    ReturnsInHanded {} Tryd.checked os 4 .any ((OpenSpec.ofChange Rows.sealCutsSpec).preRow enc Tryd.prog Tryd.f4 Rows.sealCutsRow.domain false Rows.sealCutsRow.laid) (((OpenSpec.ofChange Rows.sealCutsSpec).at F).post enc Tryd.prog Tryd.f4 false true false false) := by
  obtain ⟨places, hx⟩ := reads os enc
  refine returnsInHanded_of_row (C := Tryd.checked) (s := OpenSpec.ofChange Rows.sealCutsSpec) own started (by kernel_rfl) Tryd.func4
    (witness_row_at (enc := enc) (C := Tryd.checked) false (laidWorld os) #[.slice none 0 0, .int .i64 0] rfl (by kernel_rfl) (by kernel_rfl) (by kernel_rfl)
      (OpenSpec.preRow_of_cond 8 hx (by kernel_rfl) (fun k hk => by cases hk) (by kernel_rfl) (laid_met os))) ?_
  intro W base args ds gs before hval hW _ _ hsz hL _ _
  exact contract H enc W base args ds gs before hval hW hL
theorem said : Rows.SealCutsSaid :=
  OpenClaim.holds_of_cond 4 Tryd.f4 rfl rfl rfl rfl rfl rfl rfl ⟨rfl, rfl, rfl, rfl, rfl⟩ rfl rfl rfl rfl rfl (by kernel_rfl) Tryd.func4 (by kernel_rfl)
    (of_decide_eq_true (by kernel_rfl)) (by unfold Func.isWrapper; first | (rw [if_pos (by decide +kernel)]; kernel_rfl) | (rw [if_neg (by decide +kernel)]; exact ⟨rfl, rfl⟩))
    (fun os started H enc _ F => by rw [OpenClaim.pre_eq_preRow]; exact lifted os started H enc F)
theorem plain (f : FuncId) (fn : Func) (hf : Tryd.pinned.checked.prog.funcNamed "troth/trothlaw03.SealCuts" = some f) (hfn : Tryd.pinned.checked.prog.funcs[f]? = some fn) :
    false = Tryd.pinned.checked.prog.looks [] ∧ ∀ (j : Nat) t, fn.params[j]? = some t → Tryd.pinned.checked.prog.wantsStandIn t = false := by
  obtain rfl : f = 4 := Option.some.inj ((show Tryd.prog.funcNamed "troth/trothlaw03.SealCuts" = some 4 by kernel_rfl).symm.trans hf) |>.symm
  obtain rfl : fn = Tryd.f4 := (Option.some.inj (Tryd.func4.symm.trans hfn)).symm
  refine ⟨by kernel_rfl, fun j t ht => ?_⟩
  rw [Tryd.params4] at ht
  have ht' : t = 22 ∨ t = 3 := by simpa using Array.mem_of_getElem? ht
  rcases ht' with rfl | rfl
  · exact (show Tryd.prog.wantsStandIn 22 = false by kernel_rfl)
  · exact (show Tryd.prog.wantsStandIn 3 = false by kernel_rfl)
theorem card : Rows.SealCutsCardSaid :=
  Claim7.holds_tied_plain_at .later [] _ _ _ _ said (fun _ h => by cases h) (by kernel_rfl) (fun _ h => by cases h) sealCuts_row_tie rfl ⟨rfl, rfl⟩ (by kernel_rfl) rfl plain (by kernel_rfl)
#print axioms card
end Go.Proofs.YtbghpdfhloalhaaDoor.sealCuts
