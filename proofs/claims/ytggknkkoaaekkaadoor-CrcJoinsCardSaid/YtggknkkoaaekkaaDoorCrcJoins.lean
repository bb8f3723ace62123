/- CrcJoins: the sum of two texts is told by theirs; no condition. -/
import Derived.Test.YtggknkkoaaekkaaDoorCrcJoin
import Derived.Test.YtggknkkoaaekkaaDoorLift
import Derived.Test.YtggknkkoaaekkaaDoorCards
import Derived.Test.YtggknkkoaaekkaaDoorTie
import Derived.Lib.LaidTab
namespace Go.Proofs.YtggknkkoaaekkaaDoor.crcJoins
open Go.ChangeShapes Go.WideShapes Go.ChangeAt Go.RowKit Mem Lift
set_option linter.unusedVariables false

/-- own, then Sum of it -/
theorem sum_own {A : Option Addr} {n cap : Nat} {bs : List UInt8} {w0 w : World} (h : BS w0 A n bs) (ht : Half w0) (hb : Below w0.heap.size w0 w) : BS w A n bs ∧ Half w := ⟨h.below hb, ht.below hb⟩

set_option maxHeartbeats 1000000 in
theorem walk_main (A B : Option Addr) (n m capa capb : Nat) (xa bs : List UInt8) (w : World) (hA : BS w A n xa) (hB : BS w B m bs) (hn : n ≤ 2000) (hm : m ≤ 2000) (ht : Half w) :
    Calls Tryd.prog 6 #[.slice A n capa, .slice B m capb] w fun e w' => e = .returned (.bool true) ∧ Below w.heap.size w w' := by
  have hg : decide ((2000 : Int) < (n : Int)) = false := by simp; omega
  have hg2 : decide ((2000 : Int) < (m : Int)) = false := by simp; omega
  obtain ⟨i0, hi0, hz0, hz1, hz2⟩ := info_parts info8
  have HI := Lib.hid (And.intro hi0 (And.intro hz0 (And.intro hz1 hz2)))
  clear hi0 hz0 hz1 hz2
  have H0 := Lib.hid (And.intro hA (And.intro hB ht))
  clear hA hB ht
  have HJ := Lib.hid (Crc.join xa bs)
  go_enter Tryd.func6, Tryd.ntmps6
  go_wp2_with fail
  refine (own_any A n capa xa w H0.out.1 (by omega)).mono ?_
  rintro e w1 ⟨v, rfl, hown, hb1⟩
  rw [H0.out.1.1] at hown
  obtain ⟨A1, c1, rfl⟩ := own_slice hown
  have HO1 := Lib.hid hown
  clear hown
  go_wp2_with fail
  refine (crcSum_any A1 n c1 xa w1 (BS.of_own HO1.out) (by omega) (H0.out.2.2.below hb1)).mono ?_
  rintro e w2 ⟨rfl, rfl⟩
  go_wp2_with fail
  refine (own_any B m capb bs w1 (H0.out.2.1.below hb1) (by omega)).mono ?_
  rintro e w2 ⟨v, rfl, hown, hb2'⟩
  have hb2 : Below w.heap.size w w2 := hb1.trans (hb2'.mono hb1.size)
  rw [H0.out.2.1.1] at hown
  obtain ⟨A2, c2, rfl⟩ := own_slice hown
  have HO2 := Lib.hid hown
  clear hown hb1 hb2'
  go_wp2_with fail
  refine (crcSum_any A2 m c2 bs w2 (BS.of_own HO2.out) (by omega) (H0.out.2.2.below hb2)).mono ?_
  rintro e w3 ⟨rfl, rfl⟩
  go_wp2_with fail
  refine (join_nat (Crc.sum xa) (Crc.sum bs) m (by omega) w2).mono ?_
  rintro e w3 ⟨rfl, hb3'⟩
  have hb3 : Below w.heap.size w w3 := hb2.trans (hb3'.mono hb2.size)
  clear hb2 hb3'
  go_wp2_with fail
  refine (own_any A n capa xa w3 (H0.out.1.below hb3) (by omega)).mono ?_
  rintro e w4 ⟨v, rfl, hown, hb4'⟩
  have hb4 : Below w.heap.size w w4 := hb3.trans (hb4'.mono hb3.size)
  rw [H0.out.1.1] at hown
  obtain ⟨A4, c4, rfl⟩ := own_slice hown
  have HO4 := Lib.hid hown
  clear hown
  go_wp2_with (at_builtin; refine wpList_append_bs _ rfl _ _ 22 rfl w3.heap.size 5 i0 Tryd.underlying22 HI.out.1 HI.out.2.1 HI.out.2.2.1 HI.out.2.2.2 (.slice A4 n c4) n (u8s xa) rfl HO4.out B m capb bs rfl (H0.out.2.1.below hb4) (by omega) hb4'.size ?_; intro v' w5 hown5 hg5 hat5)
  have hb5 : Below w.heap.size w w5 := hb4.grown hg5 hb4.size (fun k hk => Nat.le_trans hb3.size (HO4.out.lt k hk).1)
  rw [← u8s_append] at hown5
  obtain ⟨A5, c5, rfl⟩ := own_slice hown5
  have HO5 := Lib.hid (BS.of_own hown5)
  clear hown5 hat5 hg5 hb3 hb4 hb4'
  go_wp2_with fail
  refine (refSum_any A5 (n + m) c5 _ w5 HO5.out (by omega)).mono ?_
  rintro e w6 ⟨rfl, rfl⟩
  have hl : m = bs.length := H0.out.2.1.1.symm
  have hcmp : (((Crc.xr (Crc.it (8 * m) (Crc.sum xa)) (Crc.sum bs)).toNat : Int) == ((Crc.sum (xa ++ bs)).toNat : Int)) = true := by
    rw [HJ.out, hl]; simp
  clear hl
  go_wp2_with fail
  refine (own_any A n capa xa w5 (H0.out.1.below hb5) (by omega)).mono ?_
  rintro e w6 ⟨v, rfl, hown, hb6'⟩
  have hb6 : Below w.heap.size w w6 := hb5.trans (hb6'.mono hb5.size)
  rw [H0.out.1.1] at hown
  obtain ⟨A6, c6, rfl⟩ := own_slice hown
  have HO6 := Lib.hid hown
  clear hown hb5 hb6'
  go_wp2_with fail
  refine (crcSum_any A6 n c6 xa w6 (BS.of_own HO6.out) (by omega) (H0.out.2.2.below hb6)).mono ?_
  rintro e w7 ⟨rfl, rfl⟩
  go_wp2_with fail
  refine (join_nat (Crc.sum xa) 0#32 0 (by omega) w6).mono ?_
  rintro e w7 ⟨rfl, hb7'⟩
  have hb7 : Below w.heap.size w w7 := hb6.trans (hb7'.mono hb6.size)
  clear hb6 hb7'
  have hx0 : Crc.xr (Crc.it (8 * 0) (Crc.sum xa)) 0#32 = Crc.sum xa := by unfold Crc.xr; simp [Crc.it]
  rw [hx0]
  go_wp2_with fail
  refine (own_any A n capa xa w7 (H0.out.1.below hb7) (by omega)).mono ?_
  rintro e w8 ⟨v, rfl, hown, hb8'⟩
  have hb8 : Below w.heap.size w w8 := hb7.trans (hb8'.mono hb7.size)
  rw [H0.out.1.1] at hown
  obtain ⟨A8, c8, rfl⟩ := own_slice hown
  have HO8 := Lib.hid hown
  clear hown hb7 hb8'
  go_wp2_with fail
  refine (crcSum_any A8 n c8 xa w8 (BS.of_own HO8.out) (by omega) (H0.out.2.2.below hb8)).mono ?_
  rintro e w9 ⟨rfl, rfl⟩
  go_wp2_with fail
  refine (awake_any w8 (H0.out.2.2.below hb8)).mono ?_
  rintro e w9 ⟨rfl, hb9⟩
  go_wp2
  go_ret
  exact ⟨rfl, hb8.trans (hb9.mono hb8.size)⟩
set_option maxHeartbeats 400000 in
theorem walk (A : Option Addr) (n capa : Nat) (xa : List UInt8) (B : Option Addr) (m capb : Nat) (bs : List UInt8) (w : World) (hA : BS w A n xa) (hnc : n ≤ capa) (hcm : capa ≤ maxLen) (hB : BS w B m bs) (hnc2 : m ≤ capb) (hcm2 : capb ≤ maxLen) (ht : Half w) :
    Calls Tryd.prog 6 #[.slice A n capa, .slice B m capb] w fun e w' => e = .returned (.bool true) ∧ Below w.heap.size w w' := by
  by_cases h1 : n ≤ 2000
  · by_cases h2 : m ≤ 2000
    · exact walk_main A B n m capa capb xa bs w hA hB h1 h2 ht
    · have hg : decide ((2000 : Int) < (n : Int)) = false := by simp; omega
      have hg2 : decide ((2000 : Int) < (m : Int)) = true := by simp; omega
      go_enter Tryd.func6, Tryd.ntmps6
      go_wp2_with fail
      refine (awake_any w ht).mono ?_
      rintro e w2 ⟨rfl, hb2⟩
      go_wp2
      go_ret
      exact ⟨rfl, hb2⟩
  · have hg : decide ((2000 : Int) < (n : Int)) = true := by simp; omega
    go_enter Tryd.func6, Tryd.ntmps6
    go_wp2_with fail
    refine (awake_any w ht).mono ?_
    rintro e w2 ⟨rfl, hb2⟩
    go_wp2
    go_ret
    exact ⟨rfl, hb2⟩

theorem own : ownKnob Tryd.prog.godebug = none := by kernel_rfl
theorem laidOut : laidOutB Tryd.prog = true := by kernel_rfl
theorem params_ok : ∀ t ∈ Tryd.f6.params.toList, Tryd.prog.readableRec t = true ∧ t < Tryd.prog.types.size := by
  rw [Tryd.params6]
  intro t ht
  have ht' : t = 22 := by
    simpa using ht
  subst ht'
  exact ⟨(show Tryd.prog.readableRec 22 = true by kernel_rfl), of_decide_eq_true (show decide (22 < Tryd.prog.types.size) = true by kernel_rfl)⟩
theorem gTab : Tryd.prog.globalNamed "troth/crc.half" = some 0 := by kernel_rfl
theorem gTabType : (Tryd.prog.globals[0]?).map (·.type) = some 35 := by kernel_rfl
theorem cellsTab : Tryd.prog.cellsOf 35 = 16 := by kernel_rfl
theorem cells32 : Tryd.prog.cellsOf 24 = 1 := by kernel_rfl
theorem table {W : World} (h : laidMetH Tryd.prog Rows.crcJoinsRow.laid W) : Half W := by
  have h1 : Lib.TabIs Tryd.prog W "troth/crc.half" .u32 (Crc.tab.map (fun n : Nat => (n : Int))) :=
    Lib.tabIs_of_head (rest := []) gTab gTabType Tryd.underlying35 Tryd.underlying24 cells32 cellsTab h
  intro i hi
  have h2 := h1.cell gTab i (by rw [List.length_map]; exact hi)
  rw [h2]
  have hi' : i < Crc.tab.length := hi
  rw [List.getD_eq_getElem?_getD, List.getElem?_map, List.getD_eq_getElem?_getD, List.getElem?_eq_getElem hi']
  rfl

set_option maxRecDepth 100000 in
theorem contract (H : Type) (enc : TypeId × Value → H) (W : World) (base : Nat) (args : Array Value) (ds gs : List (DataW H)) (before : List MemPlace)
    (hval : ∀ (j : Nat) t v, Tryd.f6.params[j]? = some t → args[j]? = some v → Value.okWide Tryd.prog W .any base t v)
    (hW : DataW.Whole enc Tryd.prog Tryd.f6.params.toList Rows.crcJoinsSpec.vars false W args.toList ds gs before) (hL : laidMetH Tryd.prog Rows.crcJoinsRow.laid W) :
    Calls Tryd.prog 6 args W fun e W' => ∃ v, e = .returned v ∧ Rows.crcJoinsSpec.post enc Tryd.prog Tryd.f6 false true false false W args v W' := by
  have hW' := hW
  obtain ⟨p, q, hA0, hV, rfl, hfz, hnd⟩ := hW
  have hA : DataW.TrodAll enc Tryd.prog W 0 (fun _ => true) true Tryd.f6.params.toList args.toList ds p := hA0
  rw [Tryd.params6] at hA hval
  obtain ⟨v0, vs0, d0, ds0, p0, q0, hargs, rfl, rfl, h0, r0⟩ := trodAll_cons hA
  obtain ⟨v1, vs1, d1, ds1, p1, q1, rfl, rfl, rfl, h1, r1⟩ := trodAll_cons r0
  obtain ⟨rfl, rfl, rfl⟩ := trodAll_nil r1
  obtain rfl : args = #[v0, v1] := by cases args; simp_all
  obtain ⟨rfl, rfl⟩ := trodVars_none hV
  obtain ⟨A0, n0, c0, bs0, rfl, bs0h, nc0, cm0⟩ := open_bytes Tryd.underlying22 Tryd.underlying5 (show Tryd.prog.cellsOf 5 = 1 by kernel_rfl) (hval 0 22 v0 rfl rfl) h0
  obtain ⟨A1, n1, c1, bs1, rfl, bs1h, nc1, cm1⟩ := open_bytes Tryd.underlying22 Tryd.underlying5 (show Tryd.prog.cellsOf 5 = 1 by kernel_rfl) (hval 1 22 v1 rfl rfl) h1
  refine (walk A0 n0 c0 bs0 A1 n1 c1 bs1 W bs0h nc0 cm0 bs1h nc1 cm1 (table hL)).mono fun e W' ⟨he, bel⟩ => ?_
  exact ⟨_, he, post_true laidOut Tryd.underlying4 (show Tryd.f6.resultTypes = #[4] from rfl) params_ok rfl hW' rfl bel⟩

noncomputable def laidWorld (os : Os) : World :=
  { World.holding Tryd.prog os ⟨#[], #[], []⟩ with heap := (World.holding Tryd.prog os ⟨#[], #[], []⟩).heap.modify 0 fun
      | .cells _ t frozen => .cells #[.int .u32 0, .int .u32 498536548, .int .u32 997073096, .int .u32 651767980, .int .u32 1994146192, .int .u32 1802195444, .int .u32 1303535960, .int .u32 1342533948, .int .u32 3988292384, .int .u32 4027552580, .int .u32 3604390888, .int .u32 3412177804, .int .u32 2607071920, .int .u32 2262029012, .int .u32 2685067896, .int .u32 3183342108] t frozen
      | o => o }
theorem laid_met (os : Os) : laidMet Tryd.prog Rows.crcJoinsRow.laid ((laidWorld os).forCall (fun _ _ => 0) ⟨#[], #[.slice none 0 0, .slice none 0 0], []⟩).memory :=
  laidMet_of_run' 8 (by kernel_rfl) (by kernel_rfl)
theorem reads (os : Os) {H : Type} (enc : TypeId × Value → H) : ∃ places, DataW.whole enc Tryd.prog ((laidWorld os).forCall (fun _ _ => 0) ⟨#[], #[.slice none 0 0, .slice none 0 0], []⟩).memory Tryd.f6.params.toList Rows.crcJoinsSpec.vars false (#[Value.slice none 0 0, Value.slice none 0 0] : Array Value).toList 8 = some ([.nil, .nil], [], places) :=
  ⟨[], by kernel_rfl⟩
set_option maxRecDepth 100000 in
theorem lifted (os : Os) (started : os.Started) (H : Type) (enc : TypeId × Value → H) (F : Stop.Interp) :
    ReturnsInHanded {} Tryd.checked os 6 .any ((OpenSpec.ofChange Rows.crcJoinsSpec).preRow enc Tryd.prog Tryd.f6 Rows.crcJoinsRow.domain false Rows.crcJoinsRow.laid) (((OpenSpec.ofChange Rows.crcJoinsSpec).at F).post enc Tryd.prog Tryd.f6 false true false false) := by
  obtain ⟨places, hx⟩ := reads os enc
  refine returnsInHanded_of_row (C := Tryd.checked) (s := OpenSpec.ofChange Rows.crcJoinsSpec) own started (by kernel_rfl) Tryd.func6
    (witness_row_at (enc := enc) (C := Tryd.checked) false (laidWorld os) #[.slice none 0 0, .slice none 0 0] rfl (by kernel_rfl) (by kernel_rfl) (by kernel_rfl)
      (OpenSpec.preRow_of_cond 8 hx (by kernel_rfl) (fun k hk => by cases hk) (by kernel_rfl) (laid_met os))) ?_
  intro W base args ds gs before hval hW _ _ _ hL _ _
  exact contract H enc W base args ds gs before hval hW hL
theorem said : Rows.CrcJoinsSaid :=
  OpenClaim.holds_of_cond 6 Tryd.f6 rfl rfl rfl rfl rfl rfl rfl ⟨rfl, rfl, rfl, rfl, rfl⟩ rfl rfl rfl rfl rfl (by kernel_rfl) Tryd.func6 (by kernel_rfl)
    (of_decide_eq_true (by kernel_rfl)) (by unfold Func.isWrapper; first | (rw [if_pos (by decide +kernel)]; kernel_rfl) | (rw [if_neg (by decide +kernel)]; exact ⟨rfl, rfl⟩))
    (fun os started H enc _ F => by rw [OpenClaim.pre_eq_preRow]; exact lifted os started H enc F)
theorem plain (f : FuncId) (fn : Func) (hf : Tryd.pinned.checked.prog.funcNamed "troth/trothlaw02.CrcJoins" = some f) (hfn : Tryd.pinned.checked.prog.funcs[f]? = some fn) :
    false = Tryd.pinned.checked.prog.looks [] ∧ ∀ (j : Nat) t, fn.params[j]? = some t → Tryd.pinned.checked.prog.wantsStandIn t = false := by
  obtain rfl : f = 6 := Option.some.inj ((show Tryd.prog.funcNamed "troth/trothlaw02.CrcJoins" = some 6 by kernel_rfl).symm.trans hf) |>.symm
  obtain rfl : fn = Tryd.f6 := (Option.some.inj (Tryd.func6.symm.trans hfn)).symm
  refine ⟨by kernel_rfl, fun j t ht => ?_⟩
  rw [Tryd.params6] at ht
  have ht' : t = 22 := by simpa using Array.mem_of_getElem? ht
  subst ht'
  exact (show Tryd.prog.wantsStandIn 22 = false by kernel_rfl)
theorem card : Rows.CrcJoinsCardSaid :=
  Claim7.holds_tied_plain_at .later [] _ _ _ _ said (fun _ h => by cases h) (by kernel_rfl) (fun _ h => by cases h) crcJoins_row_tie rfl ⟨rfl, rfl⟩ (by kernel_rfl) rfl plain (by kernel_rfl)
#print axioms card
end Go.Proofs.YtggknkkoaaekkaaDoor.crcJoins
