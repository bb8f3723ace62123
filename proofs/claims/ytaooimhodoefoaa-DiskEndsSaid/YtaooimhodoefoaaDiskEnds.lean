/- DiskEnds: with all writes kept a crash leaves what there was; with none, not torn, what was synced; no condition. -/
import Derived.Test.YtaooimhodoefoaaPlayed
namespace Go.Proofs.Ytaooimhodoefoaa.diskEnds
open Go.ChangeShapes Go.WideShapes Go.ChangeAt Go.RowKit Mem Lift
set_option linter.unusedVariables false
set_option linter.unusedSimpArgs false

def upto (k : Nat) : List Int := (List.range k).map fun (n : Nat) => (n : Int)
theorem upto_mem (k j : Nat) (h : j < k) : (j : Int) ∈ upto k := List.mem_map.2 ⟨j, List.mem_range.2 h, rfl⟩
theorem upto_snoc (k : Nat) : upto (k + 1) = upto k ++ [(k : Int)] := by simp [upto, List.range_succ]
theorem upto_length (k : Nat) : (upto k).length = k := by simp [upto]
theorem crash_all {d : Dk.D} (hok : Dk.Ok d) : ∀ i, i ≤ d.pend.length → ∀ n, Dk.crashTo d (upto d.pend.length) false 0 i n = (Dk.lastOf (d.pend.take i) n).or (d.syn n)
  | 0, _, n => by simp [Dk.crashTo, Dk.lastOf]
  | i + 1, hi, n => by
    have ih := crash_all hok i (by omega)
    have hx := hok.pend (d.pend.getD i (0, [])) (by rw [List.getD_eq_getElem?_getD, List.getElem?_eq_getElem (by omega)]; simp)
    have hlen := Dk.crashTo_length hok (upto d.pend.length) false 0 i (by omega)
    show Dk.mix (Dk.crashTo d (upto d.pend.length) false 0 i) (d.pend.getD i (0, [])) (Dk.cutOf (upto d.pend.length) false 0 d.pend.length i) n = _
    have hc : Dk.cutOf (upto d.pend.length) false 0 d.pend.length i = 256 := by
      unfold Dk.cutOf
      rw [if_neg (by simp), if_pos (upto_mem _ _ (by omega))]
    rw [hc, Dk.lastOf_take _ _ (by omega)]
    unfold Dk.mix
    rw [if_neg (by omega)]
    unfold upd
    generalize d.pend.getD i (0, []) = x at *
    have hz : ((Dk.crashTo d (upto d.pend.length) false 0 i x.1).getD Dk.zeros).length = 256 := by
      cases hq : Dk.crashTo d (upto d.pend.length) false 0 i x.1 with
      | none => exact Dk.zeros_length
      | some t => exact hlen _ t hq
    by_cases hn : n = x.1
    · rw [if_pos hn, if_pos hn.symm, List.take_of_length_le (by omega), List.drop_eq_nil_of_le (by omega), List.append_nil]
      rfl
    · rw [if_neg hn, if_neg (fun e => hn e.symm)]
      exact ih n
theorem ends_all {d : Dk.D} (hok : Dk.Ok d) (hnw : Dk.Nw d) (n : Int) : Dk.cur (Dk.crash d (upto d.pend.length) false 0) n = Dk.cur d n := by
  unfold Dk.cur
  show (Dk.crashTo d (upto d.pend.length) false 0 d.pend.length n).getD Dk.zeros = _
  rw [crash_all hok _ (Nat.le_refl _), List.take_of_length_le (Nat.le_refl _), ← hnw n]
  cases d.now n <;> rfl
theorem crash_none (d : Dk.D) : ∀ i, Dk.crashTo d [] false 0 i = d.syn
  | 0 => rfl
  | i + 1 => by
    show Dk.mix (Dk.crashTo d [] false 0 i) _ (Dk.cutOf [] false 0 d.pend.length i) = _
    rw [crash_none d i]
    have : Dk.cutOf [] false 0 d.pend.length i = 0 := by unfold Dk.cutOf; rw [if_neg (by simp), if_neg (by simp)]
    rw [this]
    rfl
theorem ends_none (d : Dk.D) (n : Int) : Dk.cur (Dk.crash d [] false 0) n = (d.syn n).getD Dk.zeros := by
  unfold Dk.cur
  show (Dk.crashTo d [] false 0 d.pend.length n).getD Dk.zeros = _
  rw [crash_none]
theorem read_on {d : Dk.D} {n : Int} (h0 : d.down = false) (h1 : 0 ≤ n) (h2 : n < d.size) : Dk.read d n = (Dk.cur d n, 0) := by
  unfold Dk.read
  rw [if_neg (by unfold Dk.at_; rw [if_neg (by omega)]; simp), h0]
  rfl
theorem own_ge {w : World} {e : TypeId} {size n : Nat} {v : Value} {xs : List Value} {base k : Nat} (h : w.ownsRow base e size v n xs) (hv : v.ownBlock = some k) : base ≤ k := by
  rcases h.2 with ⟨rfl, _⟩ | ⟨g, cap, cur, rfl, hb, hg, _⟩
  · simp [Value.ownBlock] at hv
  · simp [Value.ownBlock] at hv
    subst hv
    exact hb
theorem news_one (wr : World) (k : Int) (t : TypeId) : ∀ (j : Nat) (u : Value), ([.int .i64 k] : List Value)[j]? = some u → (wr.alloc (.cells #[.int .i64 k] t)).cell? ((⟨wr.heap.size, 0, none⟩ : Addr).add j) = some u := by
  intro j u hj
  rw [add_zero, World.cell?_alloc_mark, ← hj]
  simp
theorem one_int (k : Int) : ∀ u ∈ ([.int .i64 k] : List Value), u.oneCell' = true := by
  intro u hu
  simp only [List.mem_cons, List.not_mem_nil, or_false] at hu
  subst hu
  rfl
set_option maxRecDepth 100000 in
set_option maxHeartbeats 8000000 in
theorem walk_main (A : Option Addr) (m cap : Nat) (l : List CallD) (w : World) (hl : CS w A m l) (hmc : m ≤ cap) (hcm : cap ≤ maxLen) (hlong : longB l = false) :
    Calls Try.prog 11 #[.slice A m cap] w fun e w' => e = .returned (.bool true) ∧ Below w.heap.size w w' := by
  have hcm' := hcm
  unfold maxLen at hcm
  have hm60 : m ≤ 60 := by have := (longB_false hlong).1; rw [hl.len] at this; exact this
  have HL := Lib.hid (And.intro hl (And.intro hlong hcm'))
  clear hl hlong hcm'
  obtain ⟨i0, hi0, hz0, hz1, hz2⟩ := info_parts oinfoI
  have HI := Lib.hid (And.intro hi0 (And.intro hz0 (And.intro hz1 hz2)))
  clear hi0 hz0 hz1 hz2
  go_enter Try.func11, Try.ntmps11
  go_wp2_with fail
  refine (long_any A m cap l w HL.out.1 hmc hcm).mono ?_
  rintro e w0 ⟨rfl, hw⟩
  subst hw
  rw [HL.out.2.1]
  go_wp2_with fail
  refine (played_any A m cap l w HL.out.1 hmc HL.out.2.2 (by omega)).mono ?_
  rintro e w1 ⟨p, q, rfl, h1⟩
  have hpl := Dk.pl_play l m
  generalize Dk.playTo l m = d at *
  have hplen := hpl.pend
  obtain ⟨sv, xs, lv, ys, F, hr⟩ := sep_rcells h1 (i := 1) rfl
  obtain ⟨LA, lc, rfl⟩ := own_slice hr.lrow
  have H1 := Lib.hid (And.intro h1 (And.intro hpl hr))
  clear h1 hpl hr
  go_wp2_with fail
  go_loopg [5, 6] d.pend.length (fun gk s5 s6 wr => ∃ (k : Nat), k ≤ d.pend.length ∧ gk = d.pend.length - k ∧ s6 = .int .i64 k ∧ wr.ownsRow w1.heap.size 3 1 s5 k (i64s (upto k)) ∧ Below w1.heap.size w1 wr)
  case atStart => exact ⟨0, by omega, by omega, rfl, ⟨rfl, .inl ⟨rfl, rfl⟩⟩, Below.refl _ _⟩
  case round =>
    obtain ⟨k, hk, rfl, rfl, hown, hb⟩ := hrel
    have c1 : wr.cell? ⟨q, 1, none⟩ = some (.slice LA d.pend.length lc) := cell_below hb H1.out.2.2.blk.lt H1.out.2.2.cells.2.1
    by_cases hlt : k < d.pend.length
    · obtain ⟨A5, c5, rfl⟩ := own_slice hown
      have hown' : (wr.alloc (.cells #[.int .i64 (k : Int)] 3)).ownsRow w1.heap.size 3 1 (.slice A5 k c5) k (i64s (upto k)) := own_keep hown (fun j e => alloc_old wr _ (own_lt hown e))
      have HO := Lib.hid (And.intro hown' (And.intro hb (news_one wr (k : Int) 3)))
      clear hown hown' hb
      go_wp2_with (at_builtin; refine wpList_append_any _ rfl _ _ 50 rfl w1.heap.size 3 i0 (.int .i64 0) 1 8 Try.underlying50 HI.out.1 HI.out.2.1 HI.out.2.2.1 HI.out.2.2.2 rfl (by omega) (.slice A5 k c5) k (i64s (upto k)) rfl HO.out.1 ⟨wr.heap.size, 0, none⟩ 1 1 [.int .i64 (k : Int)] rfl rfl HO.out.2.2 (one_int _) (by unfold maxLen; omega) (by omega) (by have := HO.out.2.1.size; simp; omega) ?_; intro v' w2 hown2 hg2 hat2; have HG := Lib.hid (And.intro hown2 hg2); clear hown2 hg2 hat2)
      go_roundg (d.pend.length - (k + 1))
      case measure => omega
      case rel =>
        refine ⟨k + 1, by omega, rfl, by go_num, ?_, ?_⟩
        · have := HG.out.1
          rw [upto_snoc]
          simpa [i64s] using this
        · refine (HO.out.2.1.alloc HO.out.2.1.size _).grown HG.out.2 (by have := HO.out.2.1.size; simp; omega) ?_
          intro j e
          exact own_ge HO.out.1 e
    · obtain rfl : k = d.pend.length := by omega
      obtain ⟨A5, c5, rfl⟩ := own_slice hown
      have h2 := H1.out.1.grow hb
      have H2 := Lib.hid (And.intro h2 (And.intro H1.out.2.1 (IS.of_own hown)))
      clear hown hb h2 H1
      go_wp2_with fail
      clear c1
      refine (sep_crash H2.out.1 (i := 0) rfl H2.out.2.1.ok (by omega) A5 d.pend.length c5 (upto d.pend.length) false 0 H2.out.2.2 (by omega)).mono ?_
      rintro e w3 ⟨x, rfl, _, h3⟩
      have H3 := Lib.hid (And.intro h3 H2.out.2.1)
      clear h3 H2
      go_wp2_with fail
      refine (sep_crash H3.out.1 (i := 0) rfl H3.out.2.ok (by omega) none 0 0 [] false 0 (IS.empty _ _) (by omega)).mono ?_
      rintro e w4 ⟨y, rfl, _, h4⟩
      have h4' : Sep w w4 [.dsk p d, .ref q d, .dsk x (Dk.crash d (upto d.pend.length) false 0), .dsk y (Dk.crash d [] false 0)] := h4
      have H4 := Lib.hid (And.intro h4' H3.out.2)
      clear h4 h4' H3
      go_wp2_with fail
      go_loopg [9] 4 (fun gk s9 wr => ∃ (n : Nat), n ≤ 4 ∧ gk = 4 - n ∧ s9 = .int .i64 n ∧ Sep w wr [.dsk p d, .ref q d, .dsk x (Dk.crash d (upto d.pend.length) false 0), .dsk y (Dk.crash d [] false 0)])
      case atStart => exact ⟨0, by omega, by omega, rfl, H4.out.1⟩
      case round =>
        obtain ⟨n, hn, rfl, rfl, hS⟩ := hrel
        have HP := Lib.hid H4.out.2
        clear H4
        by_cases hlt : n < 4
        · have hn4 : (n : Int) < d.size := by have := HP.out.size; omega
          have e1 := read_on (d := d) (n := (n : Int)) HP.out.down (by omega) hn4
          have e2 := read_on (d := Dk.crash d (upto d.pend.length) false 0) (n := (n : Int)) rfl (by omega) hn4
          have e3 := read_on (d := Dk.crash d [] false 0) (n := (n : Int)) rfl (by omega) hn4
          rw [ends_all HP.out.ok HP.out.nw] at e2
          rw [ends_none] at e3
          have l1 := Dk.cur_length HP.out.ok n
          have HS := Lib.hid (And.intro hS (And.intro e1 (And.intro e2 (And.intro e3 l1))))
          clear hS e1 e2 e3 l1 hn4
          go_wp2_with fail
          refine (sep_read HS.out.1 (i := 0) rfl HP.out.ok n).mono ?_
          rw [HS.out.2.1]
          rintro e w5 ⟨A5', c5', rfl, hB5, _, _, hb5, _⟩
          simp only [HS.out.2.2.2.2] at hB5 ⊢
          have H5 := Lib.hid (And.intro hB5 (HS.out.1.grow hb5))
          clear hB5 hb5
          go_wp2_with fail
          refine (sep_read H5.out.2 (i := 2) rfl (Dk.crash_ok HP.out.ok _ _ _) n).mono ?_
          rw [HS.out.2.2.1]
          rintro e w6 ⟨A6, c6, rfl, hB6, _, _, hb6, _⟩
          simp only [HS.out.2.2.2.2] at hB6 ⊢
          have H6 := Lib.hid (And.intro (H5.out.1.below hb6) (And.intro hB6 (H5.out.2.grow hb6)))
          clear hB6 hb6 H5
          go_wp2_with fail
          refine (sep_read H6.out.2.2 (i := 3) rfl (Dk.crash_ok HP.out.ok _ _ _) n).mono ?_
          rw [HS.out.2.2.2.1]
          rintro e w7 ⟨A7, c7, rfl, hB7, _, _, hb7, _⟩
          have hS7 := H6.out.2.2.grow hb7
          obtain ⟨sv', xs', lv', ys', F', hr⟩ := sep_rcells hS7 (i := 1) rfl
          have hxl : n < xs'.length := by have := hr.slen; have := HP.out.size; omega
          have hx4 : xs'.length ≤ 4096 := by have := hr.slen; have := HP.out.size; omega
          obtain ⟨g, cg, v0, rfl, cs, hv0⟩ := hr.scell hxl
          obtain ⟨A8, c8, rfl, hB8, _, _, hl8⟩ := hv0.bytes
          obtain ⟨k0, _⟩ := hr.cells
          rw [hl8] at hB7
          rw [show (((d.syn n).getD Dk.zeros), 0).1.length = 256 from hl8]
          have H7 := Lib.hid (And.intro (H6.out.1.below hb7) (And.intro (H6.out.2.1.below hb7) (And.intro hB7 (And.intro hB8 hS7))))
          clear hB7 hb7 H6 hr hv0 hB8 hS7 hl8
          go_wp2_with fail
          refine (same_any A5' A6 256 256 c5' c6 _ _ w7 H7.out.1 H7.out.2.1 (by omega) (by omega)).mono ?_
          rintro e w8 ⟨rfl, hd8⟩
          have hb8 := hd8.below
          have hq8 : ∀ b o v, w7.cell? ⟨b, o, none⟩ = some v → w8.cell? ⟨b, o, none⟩ = some v := fun b o v h => by obtain ⟨nn, rfl⟩ := hd8; exact h
          have k08 := hq8 _ _ _ k0
          have cs8 := hq8 _ _ _ cs
          rw [decide_eq_true rfl]
          have H8 := Lib.hid (And.intro (H7.out.2.2.1.below hb8) (And.intro (H7.out.2.2.2.1.below hb8) (H7.out.2.2.2.2.grow hb8)))
          clear hd8 hb8 H7 hq8 k0 cs
          have hni : (n : Int) < (xs'.length : Int) := by omega
          go_wp2_with fail
          refine (same_any A7 A8 256 256 c7 c8 _ _ w8 H8.out.1 H8.out.2.1 (by omega) (by omega)).mono ?_
          rintro e w9 ⟨rfl, hd9⟩
          rw [decide_eq_true rfl]
          have H9 := Lib.hid (H8.out.2.2.grow hd9.below)
          clear hd9 H8 k08 cs8
          go_wp2_with fail
          go_roundg (4 - (n + 1))
          case measure => omega
          case rel => exact ⟨n + 1, by omega, rfl, by go_num, H9.out⟩
        · obtain rfl : n = 4 := by omega
          obtain ⟨_, _, _, x3, _, x5, x6⟩ := sep_cells hS (i := 2) rfl
          obtain ⟨_, _, _, y3, _⟩ := sep_cells hS (i := 3) rfl
          have HX := Lib.hid (And.intro x3 (And.intro x5 (And.intro x6 (And.intro y3 hS.1))))
          clear x3 x5 x6 y3 hS HP
          go_wp2_with fail
          refine (pending_any x _ 0 _ wr HX.out.1).mono ?_
          rintro e w5 ⟨rfl, hw5⟩
          subst hw5
          go_wp2_with fail
          refine (pending_any y _ 0 _ w5 HX.out.2.2.2.1).mono ?_
          rintro e w6 ⟨rfl, hw6⟩
          subst hw6
          go_wp2_with fail
          refine (down_any x false w6 HX.out.2.1).mono ?_
          rintro e w7 ⟨rfl, hw7⟩
          subst hw7
          go_wp2_with fail
          refine (syncs_any x 0 w7 HX.out.2.2.1).mono ?_
          rintro e w8 ⟨rfl, hw8⟩
          subst hw8
          go_wp2_with fail
          refine (awake04_any w8).mono ?_
          rintro e w9 ⟨rfl, hb9⟩
          have H9 := Lib.hid (HX.out.2.2.2.2.trans (hb9.mono HX.out.2.2.2.2.size))
          clear hb9 HX
          go_wp2
          go_ret
          exact ⟨rfl, H9.out⟩
theorem walk (A : Option Addr) (m cap : Nat) (l : List CallD) (w : World) (hl : CS w A m l) (hmc : m ≤ cap) (hcm : cap ≤ maxLen) :
    Calls Try.prog 11 #[.slice A m cap] w fun e w' => e = .returned (.bool true) ∧ Below w.heap.size w w' := by
  cases hlo : longB l with
  | false => exact walk_main A m cap l w hl hmc hcm hlo
  | true =>
    unfold maxLen at hcm
    have HL := Lib.hid hl
    clear hl
    go_enter Try.func11, Try.ntmps11
    go_wp2_with fail
    refine (long_any A m cap l w HL.out hmc hcm).mono ?_
    rintro e w0 ⟨rfl, hw⟩
    subst hw
    rw [hlo]
    go_wp2_with fail
    refine (awake04_any w).mono ?_
    rintro e w10 ⟨rfl, hb10⟩
    go_wp2
    go_ret
    exact ⟨rfl, hb10⟩


theorem own : ownKnob Try.prog.godebug = none := by kernel_rfl
theorem laidOut : laidOutB Try.prog = true := by kernel_rfl
theorem params_ok : ∀ t ∈ Try.f11.params.toList, Try.prog.readableRec t = true ∧ t < Try.prog.types.size := by
  rw [Try.params11]
  intro t ht
  have ht' : t = 49 := by
    simpa using ht
  subst ht'
  exact ⟨(show Try.prog.readableRec 49 = true by kernel_rfl), of_decide_eq_true (show decide (49 < Try.prog.types.size) = true by kernel_rfl)⟩

set_option maxRecDepth 100000 in
theorem contract (H : Type) (enc : TypeId × Value → H) (W : World) (base : Nat) (args : Array Value) (ds gs : List (DataW H)) (before : List MemPlace)
    (hval : ∀ (j : Nat) t v, Try.f11.params[j]? = some t → args[j]? = some v → Value.okWide Try.prog W .any base t v)
    (hW : DataW.Whole enc Try.prog Try.f11.params.toList Rows.diskEndsSpec.vars false W args.toList ds gs before) :
    Calls Try.prog 11 args W fun e W' => ∃ v, e = .returned v ∧ Rows.diskEndsSpec.post enc Try.prog Try.f11 false true false false W args v W' := by
  have hW' := hW
  obtain ⟨p, q, hA0, hV, rfl, hfz, hnd⟩ := hW
  have hA : DataW.TrodAll enc Try.prog W 0 (fun _ => true) true Try.f11.params.toList args.toList ds p := hA0
  rw [Try.params11] at hA hval
  obtain ⟨v0, vs0, d0, ds0, p0, q0, hargs, rfl, rfl, h0, r0⟩ := trodAll_cons hA
  obtain ⟨rfl, rfl, rfl⟩ := trodAll_nil r0
  obtain rfl : args = #[v0] := by cases args; simp_all
  obtain ⟨rfl, rfl⟩ := trodVars_none hV
  obtain ⟨A0, n0, c0, l0, rfl, lh0, nc0, cm0⟩ := open_calls (hval 0 49 v0 rfl rfl) h0
  refine (walk A0 n0 c0 l0 W lh0 nc0 cm0).mono fun e W' ⟨he, bel⟩ => ?_
  exact ⟨_, he, post_true laidOut Try.underlying4 (show Try.f11.resultTypes = #[4] from rfl) params_ok rfl hW' rfl bel⟩

theorem laid_met (os : Os) : laidMet Try.prog Rows.diskEndsRow.laid ((World.holding Try.prog os ⟨#[], #[], []⟩).forCall (fun _ _ => 0) ⟨#[], #[.slice none 0 0], []⟩).memory :=
  laidMet_of_run' 8 (by kernel_rfl) (by kernel_rfl)
theorem reads (os : Os) {H : Type} (enc : TypeId × Value → H) : ∃ places, DataW.whole enc Try.prog ((World.holding Try.prog os ⟨#[], #[], []⟩).forCall (fun _ _ => 0) ⟨#[], #[.slice none 0 0], []⟩).memory Try.f11.params.toList Rows.diskEndsSpec.vars false (#[Value.slice none 0 0] : Array Value).toList 8 = some ([.nil], [], places) :=
  ⟨[], by kernel_rfl⟩
set_option maxRecDepth 100000 in
theorem lifted (os : Os) (started : os.Started) (H : Type) (enc : TypeId × Value → H) (F : Stop.Interp) :
    ReturnsInHanded {} Try.checked os 11 .any ((OpenSpec.ofChange Rows.diskEndsSpec).preRow enc Try.prog Try.f11 Rows.diskEndsRow.domain false Rows.diskEndsRow.laid) (((OpenSpec.ofChange Rows.diskEndsSpec).at F).post enc Try.prog Try.f11 false true false false) := by
  obtain ⟨places, hx⟩ := reads os enc
  refine returnsInHanded_of_row (C := Try.checked) (s := OpenSpec.ofChange Rows.diskEndsSpec) own started (by kernel_rfl) Try.func11
    (witness_row_at (enc := enc) (C := Try.checked) false (World.holding Try.prog os ⟨#[], #[], []⟩) #[.slice none 0 0] rfl (by kernel_rfl) (by kernel_rfl) (by kernel_rfl)
      (OpenSpec.preRow_of_cond 8 hx (by kernel_rfl) (fun k hk => by cases hk) (by kernel_rfl) (laid_met os))) ?_
  intro W base args ds gs before hval hW _ _ hsz hL _ _
  exact contract H enc W base args ds gs before hval hW
theorem said : Rows.DiskEndsSaid :=
  OpenClaim.holds_of_cond 11 Try.f11 rfl rfl rfl rfl rfl rfl rfl ⟨rfl, rfl, rfl, rfl, rfl⟩ rfl rfl rfl rfl rfl (by kernel_rfl) Try.func11 (by kernel_rfl)
    (of_decide_eq_true (by kernel_rfl)) (by unfold Func.isWrapper; first | (rw [if_pos (by decide +kernel)]; kernel_rfl) | (rw [if_neg (by decide +kernel)]; exact ⟨rfl, rfl⟩))
    (fun os started H enc _ F => by rw [OpenClaim.pre_eq_preRow]; exact lifted os started H enc F)
#print axioms said
end Go.Proofs.Ytaooimhodoefoaa.diskEnds
