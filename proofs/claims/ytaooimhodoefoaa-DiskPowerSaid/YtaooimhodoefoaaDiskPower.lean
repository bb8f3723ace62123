/- DiskPower: with a fuse of n just n writes and syncs are done; then all is refused; no condition. -/
import Derived.Test.YtaooimhodoefoaaDiskLong
namespace Go.Proofs.Ytaooimhodoefoaa.diskPower
open Go.ChangeShapes Go.WideShapes Go.ChangeAt Go.RowKit Mem Lift
set_option linter.unusedVariables false
set_option linter.unusedSimpArgs false

structure PI (n : Int) (i done : Nat) (d : Dk.D) : Prop where
  ok : Dk.Ok d
  size : d.size = 4
  pend : d.pend.length ≤ i
  syncs : d.syncs ≤ i
  fuse : d.fuse = n - done
  down : d.down = true → (done : Int) = n
  le : done ≤ i
  len : (done : Int) ≤ n
def PO (n : Int) (i done : Nat) (r : Nat × Dk.D) : Prop := (r.1 = 0 ∧ PI n (i + 1) (done + 1) r.2) ∨ (r.1 = 40 ∧ PI n (i + 1) done r.2 ∧ r.2.down = true) ∨ (r.1 = 1 ∧ PI n (i + 1) done r.2)
theorem PI.more {n : Int} {i done : Nat} {d : Dk.D} (h : PI n i done d) : PI n (i + 1) done d := ⟨h.ok, h.size, by have := h.pend; omega, by have := h.syncs; omega, h.fuse, h.down, by have := h.le; omega, h.len⟩
theorem step_po {n : Int} {i done : Nat} {d : Dk.D} (h : PI n i done d) : ((Dk.step d).1 = 40 ∧ PI n i done (Dk.step d).2 ∧ (Dk.step d).2.down = true) ∨
    ((Dk.step d).1 = 0 ∧ Dk.Ok (Dk.step d).2 ∧ (Dk.step d).2.size = 4 ∧ (Dk.step d).2.pend.length ≤ i ∧ (Dk.step d).2.syncs ≤ i ∧ (Dk.step d).2.fuse = n - ((done + 1 : Nat) : Int) ∧ (Dk.step d).2.down = false ∧ done + 1 ≤ i + 1 ∧ ((done + 1 : Nat) : Int) ≤ n) := by
  have hf := h.fuse
  have hl := h.len
  by_cases hc : (d.down || d.fuse == 0) = true
  · left
    have e : Dk.step d = (40, { d with down := true }) := by unfold Dk.step; rw [if_pos hc]
    rw [e]
    refine ⟨rfl, ⟨?_, h.size, h.pend, h.syncs, h.fuse, fun _ => ?_, h.le, h.len⟩, rfl⟩
    · exact ⟨h.ok.size, h.ok.syn, h.ok.now, h.ok.pend, h.ok.fuse, h.ok.syncs⟩
    · rw [Bool.or_eq_true] at hc
      rcases hc with hc | hc
      · exact h.down hc
      · have : d.fuse = 0 := by simpa using hc
        omega
  · right
    have hok := Dk.step_ok h.ok
    have e : Dk.step d = (0, { d with fuse := if 0 < d.fuse then d.fuse - 1 else d.fuse }) := by unfold Dk.step; rw [if_neg hc]
    rw [e] at hok ⊢
    rw [Bool.not_eq_true, Bool.or_eq_false_iff] at hc
    have h0 : d.fuse ≠ 0 := by simpa using hc.2
    have hp : 0 < d.fuse := by omega
    refine ⟨rfl, hok, h.size, h.pend, h.syncs, ?_, hc.1, by have := h.le; omega, by omega⟩
    simp only [if_pos hp]
    omega
theorem write_po {n : Int} {i done : Nat} {d : Dk.D} (h : PI n i done d) (k : Int) (s : List UInt8) (hs : s.length = 256) : PO n i done (Dk.write d k s) := by
  have hw := Dk.write_ok h.ok k s
  unfold Dk.write at hw ⊢
  by_cases ha : Dk.at_ d k ≠ 0
  · rw [if_pos ha]; exact .inr (.inr ⟨rfl, h.more⟩)
  · rw [if_neg ha, if_neg (by omega)] at hw ⊢
    rcases step_po h with ⟨h1, h2, h3⟩ | ⟨h1, h2, h3, h4, h5, h6, h7, h8, h9⟩
    · rw [if_pos (by omega)]
      exact .inr (.inl ⟨rfl, h2.more, h3⟩)
    · rw [if_neg (by omega)] at hw ⊢
      refine .inl ⟨rfl, ⟨hw, h3, ?_, ?_, h6, fun e => ?_, h8, h9⟩⟩
      · simp only [Dk.put, List.length_append, List.length_singleton]; omega
      · show (Dk.step d).2.syncs ≤ _; omega
      · have : (Dk.step d).2.down = true := e
        rw [h7] at this; cases this
theorem sync_po {n : Int} {i done : Nat} {d : Dk.D} (h : PI n i done d) : PO n i done (Dk.sync d) := by
  have hw := Dk.sync_ok h.ok
  unfold Dk.sync at hw ⊢
  rcases step_po h with ⟨h1, h2, h3⟩ | ⟨h1, h2, h3, h4, h5, h6, h7, h8, h9⟩
  · rw [if_pos (by omega)]
    exact .inr (.inl ⟨rfl, h2.more, h3⟩)
  · rw [if_neg (by omega)] at hw ⊢
    refine .inl ⟨rfl, ⟨hw, h3, ?_, ?_, h6, fun e => ?_, h8, h9⟩⟩
    · simp [Dk.synced]
    · show (Dk.step d).2.syncs + 1 ≤ _; omega
    · have : (Dk.step d).2.down = true := e
      rw [h7] at this; cases this
theorem new_pi (n : Int) (h0 : 0 ≤ n) (h1 : n ≤ 9223372036854775807) : PI n 0 0 (Dk.fused (Dk.new 4) n) :=
  ⟨Dk.fused_ok (Dk.new_ok 4 (by omega)) n h1, rfl, by simp [Dk.fused, Dk.new], by simp [Dk.fused, Dk.new], by show max n (-1) = _; simp; omega, (fun e => by cases e), by omega, by simpa using h0⟩
/-- what a call leaves -/
def After (w : World) (p : Nat) (n : Int) (i done : Nat) (v : Value) (wx : World) : Prop := ∃ r : Nat × Dk.D, v = .int .i64 (r.1 : Int) ∧ OwnD w wx p r.2 ∧ PO n i done r
def Mid (w wr : World) (p : Nat) (n : Int) (i done : Nat) (kind : Int) (v : Value) (wx : World) : Prop := (kind = 0 ∧ After w p n i done v wx) ∨ (kind ≠ 0 ∧ v = .int .i64 1 ∧ wx = wr)
set_option maxRecDepth 100000 in
set_option maxHeartbeats 4000000 in
theorem walk_main (A : Option Addr) (m cap : Nat) (l : List CallD) (n : Int) (w : World) (hl : CS w A m l) (hmc : m ≤ cap) (hcm : cap ≤ maxLen) (h0 : 0 ≤ n) (h1 : n ≤ 9223372036854775807) (hlong : longB l = false) :
    Calls Try.prog 10 #[.slice A m cap, .int .i64 n] w fun e w' => e = .returned (.bool true) ∧ Below w.heap.size w w' := by
  unfold maxLen at hcm
  have hm60 : m ≤ 60 := by have := (longB_false hlong).1; rw [hl.len] at this; exact this
  have HL := Lib.hid (And.intro hl hlong)
  clear hl hlong
  have hd0 : decide (n < 0) = false := by simp; omega
  go_enter Try.func10, Try.ntmps10
  go_wp2_with fail
  refine (long_any A m cap l w HL.out.1 hmc hcm).mono ?_
  rintro e w0 ⟨rfl, hw⟩
  subst hw
  rw [HL.out.2]
  go_wp2_with fail
  refine (own_new 4 (by omega) w w (Below.refl _ _)).mono ?_
  rintro e w1 ⟨p, rfl, hn1⟩
  have H1 := Lib.hid hn1
  clear hn1
  go_wp2_with fail
  refine (own_fuse H1.out n).mono ?_
  rintro e w2 ⟨rfl, hf2⟩
  have H2 := Lib.hid (And.intro hf2 (new_pi n h0 h1))
  clear hf2 H1
  go_wp2_with fail
  go_loopg [7, 8] m (fun gk s7 s8 wr => ∃ (i done : Nat) (d : Dk.D), i ≤ m ∧ gk = m - i ∧ s8 = .int .i64 i ∧ s7 = .int .i64 done ∧ OwnD w wr p d ∧ PI n i done d)
  case atStart => exact ⟨0, 0, _, by omega, by omega, rfl, rfl, H2.out.1, H2.out.2⟩
  case round =>
    obtain ⟨i, done, d, hi, rfl, rfl, rfl, hD, hP⟩ := hrel
    clear H2
    have hdi := hP.le
    have hdn := hP.len
    by_cases hlt : i < m
    · obtain ⟨b, off, rfl, c0, c1, c2, _⟩ := (HL.out.1.below hD.1).at_ hlt
      obtain ⟨b', off', e', d0, d1, d2, _⟩ := HL.out.1.at_ hlt
      obtain ⟨b'', off'', e'', hbw, _⟩ := HL.out.1.mem (by omega)
      injection e'' with e''
      injection e'' with e1 e2 _
      subst e1 e2
      injection e' with e'
      injection e' with e1 e2 _
      subst e1 e2
      have HW := Lib.hid (And.intro d1 (And.intro d2 d0))
      clear d0 d1 d2
      generalize l.getD i .zero = x at *
      have HD := Lib.hid (And.intro hD hP)
      clear hD hP
      have him : (i : Int) < (m : Int) := by omega
      go_upto_if 37 with fail
      go_cut [9] (fun s9 wx => Mid w wr p n i done x.kind s9 wx)
      case first =>
        by_cases hk : x.kind = 0
        · have hkd : (x.kind == 0) = true := by simpa using hk
          go_upto_region 11 with fail
          go_region_held3 (fun w' => w'.cell? ⟨b, off + i * 7 + 1, none⟩ = some (.int .i64 x.n) ∧ w'.cell? ⟨b, off + i * 7 + 2, none⟩ = some (.int .u8 (x.b.toNat : Int))) ((first | exact HS | (refine ⟨?_, ?_⟩ <;> (simp only [World.cell?_drew]; assumption)))) (first
            | (go_at_call 35; go_must (refine (full_any x.b _).mono ?_; rintro e w2 ⟨v, rfl, hown, hb2⟩; rw [Dk.full_length] at hown; obtain ⟨A2, k2, rfl⟩ := own_slice hown; have hbb : Below wr.heap.size wr w2 := below_undrew hb2; have HS := And.intro (cell_below (HD.out.1.1.trans (hbb.mono HD.out.1.1.size)) hbw HW.out.1) (cell_below (HD.out.1.1.trans (hbb.mono HD.out.1.1.size)) hbw HW.out.2.1); have H2 := Lib.hid (And.intro (ownB_bs hown) hbb); clear hown hb2 hbb))
            | (go_at_call 36; go_must (refine (own_write HD.out.1 H2.out.2 HD.out.2.ok x.n A2 256 k2 (Dk.full x.b) H2.out.1.1 H2.out.1.2 (by have := HD.out.2.pend; omega)).mono ?_; rintro e w3 ⟨rfl, h3⟩; have HS := And.intro (cell_below h3.1 hbw HW.out.1) (cell_below h3.1 hbw HW.out.2.1); have H3 := Lib.hid h3; clear h3)))
          all_goals
            go_wp2_with fail
            go_meet
            case rel => exact .inl ⟨hk, _, rfl, H3.out, write_po HD.out.2 x.n (Dk.full x.b) (Dk.full_length _)⟩
        · have hkd : (x.kind == 0) = false := by simpa using hk
          go_wp2_with fail
          go_meet
          case rel => exact .inr ⟨hk, rfl, rfl⟩
      case rest =>
        have hbc : Below w.heap.size w wc := by
          rcases hcut with ⟨_, r, _, h, _⟩ | ⟨_, _, rfl⟩
          · exact h.1
          · exact HD.out.1.1
        have kc := cell_below hbc hbw HW.out.2.2
        have HC := Lib.hid (And.intro hcut hbc)
        clear hcut hbc c0 c1 c2
        go_upto_if 56 with fail
        go_cut [9] (fun s9 wx => After w p n i done s9 wx)
        case first =>
          rcases HC.out.1 with ⟨hk, ha⟩ | ⟨hk, hv, hw⟩
          · have hkd : (x.kind == 1) = false := by rw [hk]; rfl
            have HA := Lib.hid ha
            clear ha HC HD hk
            go_wp2_with fail
            go_meet
            case rel => exact HA.out
          · subst hv hw
            by_cases hk1 : x.kind = 1
            · have hkd : (x.kind == 1) = true := by simpa using hk1
              clear hk hk1
              go_wp2_with fail
              refine (own_sync HD.out.1 HD.out.2.ok (by have := HD.out.2.syncs; omega)).mono ?_
              rintro e w3 ⟨rfl, h3⟩
              have H3 := Lib.hid h3
              clear h3
              go_wp2_with fail
              go_meet
              case rel => exact ⟨_, rfl, H3.out, sync_po HD.out.2⟩
            · have hkd : (x.kind == 1) = false := by simpa using hk1
              clear hk hk1
              go_wp2_with fail
              go_meet
              case rel => exact ⟨(1, d), rfl, HD.out.1, .inr (.inr ⟨rfl, HD.out.2.more⟩)⟩
        case rest =>
          obtain ⟨⟨c, d'⟩, rfl, hD', hPO⟩ := hcut
          clear HC HD HW kc
          rcases hPO with ⟨hc, hP⟩ | ⟨hc, hP, hdw⟩ | ⟨hc, hP⟩
          · have hc' : c = 0 := hc
            subst hc'
            have hle := hP.len
            have H := Lib.hid (And.intro hD' hP)
            clear hD' hP hc
            go_wp2_with fail
            go_roundg (m - (i + 1))
            case measure => omega
            case rel => exact ⟨i + 1, done + 1, d', by omega, rfl, by go_num, by go_num, H.out.1, H.out.2⟩
          · have hc' : c = 40 := hc
            subst hc'
            have hdn' : (done : Int) = n := hP.down hdw
            have hne : ((done : Int) != n) = false := by rw [hdn']; simp
            have hgt : decide (n < (done : Int)) = false := by rw [hdn']; simp
            obtain ⟨_, _, _, _, _, g5, _⟩ := own_cells hD'
            have g5' : d'.down = true := hdw
            rw [g5'] at g5
            have H := Lib.hid (And.intro hD' (And.intro hP g5))
            clear hD' hP hc hdn' g5 g5' hdw
            go_wp2_with fail
            refine (down_any p true wc H.out.2.2).mono ?_
            rintro e w9 ⟨rfl, hw9⟩
            subst hw9
            go_wp2_with fail
            go_roundg (m - (i + 1))
            case measure => omega
            case rel => exact ⟨i + 1, done, d', by omega, rfl, by go_num, rfl, H.out.1, H.out.2.1⟩
          · have hc' : c = 1 := hc
            subst hc'
            have hgt : decide (n < (done : Int)) = false := by simp; omega
            have H := Lib.hid (And.intro hD' hP)
            clear hD' hP hc
            go_wp2_with fail
            go_roundg (m - (i + 1))
            case measure => omega
            case rel => exact ⟨i + 1, done, d', by omega, rfl, by go_num, rfl, H.out.1, H.out.2⟩
    · have hge : ¬ (i : Int) < (m : Int) := by omega
      have hR : Dk.read d 0 = if d.down then ([], 40) else (Dk.cur d 0, 0) := by
        unfold Dk.read
        rw [if_neg]
        unfold Dk.at_
        rw [if_neg (by rw [hP.size]; omega)]
        simp
      obtain ⟨_, _, _, _, _, g5, _⟩ := own_cells hD
      have H := Lib.hid (And.intro hD (And.intro hP (And.intro hR g5)))
      clear hD hP hR g5 HL
      go_wp2_with fail
      refine (own_read H.out.1 H.out.2.1.ok 0).mono ?_
      rw [H.out.2.2.1]
      rintro e w3 ⟨A3, c3, rfl, hB3, hc3, hm3, hb3, _⟩
      have g3 := H.out.1.grow hb3
      obtain ⟨_, _, _, _, _, g5, _⟩ := own_cells g3
      have H3 := Lib.hid (And.intro g3.1 g5)
      clear hB3 hc3 hm3 hb3 g3 g5 H
      cases hdn : d.down
      all_goals
        rw [hdn] at H3
        go_wp2_with fail
        refine (down_any p _ w3 H3.out.2).mono ?_
        rintro e w9 ⟨rfl, hw9⟩
        subst hw9
        go_wp2_with fail
        refine (awake04_any w9).mono ?_
        rintro e w10 ⟨rfl, hb10⟩
        have H10 := Lib.hid (H3.out.1.trans (hb10.mono H3.out.1.size))
        clear hb10 H3
        go_wp2
        go_ret
        exact ⟨rfl, H10.out⟩

theorem walk (A : Option Addr) (m cap : Nat) (l : List CallD) (n : Int) (w : World) (hl : CS w A m l) (hmc : m ≤ cap) (hcm : cap ≤ maxLen) (h0 : -9223372036854775808 ≤ n) (h1 : n ≤ 9223372036854775807) :
    Calls Try.prog 10 #[.slice A m cap, .int .i64 n] w fun e w' => e = .returned (.bool true) ∧ Below w.heap.size w w' := by
  by_cases hg : longB l = false ∧ 0 ≤ n
  · exact walk_main A m cap l n w hl hmc hcm hg.2 h1 hg.1
  · unfold maxLen at hcm
    have HL := Lib.hid hl
    clear hl
    cases hlo : longB l with
    | true =>
      go_enter Try.func10, Try.ntmps10
      go_wp2_with fail
      refine (long_any A m cap l w HL.out hmc hcm).mono ?_
      rintro e w0 ⟨rfl, hw⟩
      subst hw
      rw [hlo]
      go_wp2_with fail
      refine (awake04_any w).mono ?_
      rintro e w10 ⟨rfl, hb10⟩
      go_wp2
      go_ret
      exact ⟨rfl, hb10⟩
    | false =>
      have hd0 : decide (n < 0) = true := by simp; simp [hlo] at hg; omega
      clear hg
      go_enter Try.func10, Try.ntmps10
      go_wp2_with fail
      refine (long_any A m cap l w HL.out hmc hcm).mono ?_
      rintro e w0 ⟨rfl, hw⟩
      subst hw
      rw [hlo]
      go_wp2_with fail
      refine (awake04_any w).mono ?_
      rintro e w10 ⟨rfl, hb10⟩
      go_wp2
      go_ret
      exact ⟨rfl, hb10⟩

theorem own : ownKnob Try.prog.godebug = none := by kernel_rfl
theorem laidOut : laidOutB Try.prog = true := by kernel_rfl
theorem params_ok : ∀ t ∈ Try.f10.params.toList, Try.prog.readableRec t = true ∧ t < Try.prog.types.size := by
  rw [Try.params10]
  intro t ht
  have ht' : t = 49 ∨ t = 3 := by
    simpa using ht
  rcases ht' with rfl | rfl
  · exact ⟨(show Try.prog.readableRec 49 = true by kernel_rfl), of_decide_eq_true (show decide (49 < Try.prog.types.size) = true by kernel_rfl)⟩
  · exact ⟨(show Try.prog.readableRec 3 = true by kernel_rfl), of_decide_eq_true (show decide (3 < Try.prog.types.size) = true by kernel_rfl)⟩

set_option maxRecDepth 100000 in
theorem contract (H : Type) (enc : TypeId × Value → H) (W : World) (base : Nat) (args : Array Value) (ds gs : List (DataW H)) (before : List MemPlace)
    (hval : ∀ (j : Nat) t v, Try.f10.params[j]? = some t → args[j]? = some v → Value.okWide Try.prog W .any base t v)
    (hW : DataW.Whole enc Try.prog Try.f10.params.toList Rows.diskPowerSpec.vars false W args.toList ds gs before) :
    Calls Try.prog 10 args W fun e W' => ∃ v, e = .returned v ∧ Rows.diskPowerSpec.post enc Try.prog Try.f10 false true false false W args v W' := by
  have hW' := hW
  obtain ⟨p, q, hA0, hV, rfl, hfz, hnd⟩ := hW
  have hA : DataW.TrodAll enc Try.prog W 0 (fun _ => true) true Try.f10.params.toList args.toList ds p := hA0
  rw [Try.params10] at hA hval
  obtain ⟨v0, vs0, d0, ds0, p0, q0, hargs, rfl, rfl, h0, r0⟩ := trodAll_cons hA
  obtain ⟨v1, vs1, d1, ds1, p1, q1, rfl, rfl, rfl, h1, r1⟩ := trodAll_cons r0
  obtain ⟨rfl, rfl, rfl⟩ := trodAll_nil r1
  obtain rfl : args = #[v0, v1] := by cases args; simp_all
  obtain ⟨rfl, rfl⟩ := trodVars_none hV
  obtain ⟨A0, n0, c0, l0, rfl, lh0, nc0, cm0⟩ := open_calls (hval 0 49 v0 rfl rfl) h0
  obtain ⟨x1, rfl, rfl, rfl, w1⟩ := open_int Try.underlying3 (hval 1 3 v1 rfl rfl) h1
  have b1 := bounds_i64 w1
  refine (walk A0 n0 c0 l0 x1 W lh0 nc0 cm0 b1.1 b1.2).mono fun e W' ⟨he, bel⟩ => ?_
  exact ⟨_, he, post_true laidOut Try.underlying4 (show Try.f10.resultTypes = #[4] from rfl) params_ok rfl hW' rfl bel⟩

theorem laid_met (os : Os) : laidMet Try.prog Rows.diskPowerRow.laid ((World.holding Try.prog os ⟨#[], #[], []⟩).forCall (fun _ _ => 0) ⟨#[], #[.slice none 0 0, .int .i64 0], []⟩).memory :=
  laidMet_of_run' 8 (by kernel_rfl) (by kernel_rfl)
theorem reads (os : Os) {H : Type} (enc : TypeId × Value → H) : ∃ places, DataW.whole enc Try.prog ((World.holding Try.prog os ⟨#[], #[], []⟩).forCall (fun _ _ => 0) ⟨#[], #[.slice none 0 0, .int .i64 0], []⟩).memory Try.f10.params.toList Rows.diskPowerSpec.vars false (#[Value.slice none 0 0, Value.int .i64 0] : Array Value).toList 8 = some ([.nil, .lit (.int .i64 0)], [], places) :=
  ⟨[], by kernel_rfl⟩
set_option maxRecDepth 100000 in
theorem lifted (os : Os) (started : os.Started) (H : Type) (enc : TypeId × Value → H) (F : Stop.Interp) :
    ReturnsInHanded {} Try.checked os 10 .any ((OpenSpec.ofChange Rows.diskPowerSpec).preRow enc Try.prog Try.f10 Rows.diskPowerRow.domain false Rows.diskPowerRow.laid) (((OpenSpec.ofChange Rows.diskPowerSpec).at F).post enc Try.prog Try.f10 false true false false) := by
  obtain ⟨places, hx⟩ := reads os enc
  refine returnsInHanded_of_row (C := Try.checked) (s := OpenSpec.ofChange Rows.diskPowerSpec) own started (by kernel_rfl) Try.func10
    (witness_row_at (enc := enc) (C := Try.checked) false (World.holding Try.prog os ⟨#[], #[], []⟩) #[.slice none 0 0, .int .i64 0] rfl (by kernel_rfl) (by kernel_rfl) (by kernel_rfl)
      (OpenSpec.preRow_of_cond 8 hx (by kernel_rfl) (fun k hk => by cases hk) (by kernel_rfl) (laid_met os))) ?_
  intro W base args ds gs before hval hW _ _ hsz hL _ _
  exact contract H enc W base args ds gs before hval hW
theorem said : Rows.DiskPowerSaid :=
  OpenClaim.holds_of_cond 10 Try.f10 rfl rfl rfl rfl rfl rfl rfl ⟨rfl, rfl, rfl, rfl, rfl⟩ rfl rfl rfl rfl rfl (by kernel_rfl) Try.func10 (by kernel_rfl)
    (of_decide_eq_true (by kernel_rfl)) (by unfold Func.isWrapper; first | (rw [if_pos (by decide +kernel)]; kernel_rfl) | (rw [if_neg (by decide +kernel)]; exact ⟨rfl, rfl⟩))
    (fun os started H enc _ F => by rw [OpenClaim.pre_eq_preRow]; exact lifted os started H enc F)
#print axioms said
end Go.Proofs.Ytaooimhodoefoaa.diskPower
