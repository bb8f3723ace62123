/- StampPuts: wherever a disk is torn while a sector is put that is synced, behind the crash it is what was put, or what it was, or it isn't right; no condition. -/
import Derived.Test.YtaooimhodoefoaaPutsOpen
namespace Go.Proofs.Ytaooimhodoefoaa.stampPuts
open Go.ChangeShapes Go.WideShapes Go.ChangeAt Go.RowKit Mem Lift
set_option linter.unusedVariables false
set_option linter.unusedSimpArgs false
attribute [local go_sem ↓] Go.wp_at_zero Go.wp_at_succ

/-- what the law has written down of a sector -/
def HavV (L : List (Value × List UInt8)) (v : Value) : Option (List UInt8) → Prop
  | none => v = .slice none 0 0
  | some q => (v, q) ∈ L
theorem HavV.more {L : List (Value × List UInt8)} {v : Value} {o : Option (List UInt8)} (h : HavV L v o) (x : Value × List UInt8) : HavV (x :: L) v o := by
  cases o with
  | none => exact h
  | some q => exact List.mem_cons_of_mem _ h
structure Hav (L : List (Value × List UInt8)) (vs : Array Value) (f : Nat → Option (List UInt8)) : Prop where
  size : vs.size = 4
  at_ : ∀ n, n < 4 → ∃ v, vs[n]? = some v ∧ HavV L v (f n)
theorem Hav.more {L : List (Value × List UInt8)} {vs : Array Value} {f : Nat → Option (List UInt8)} (h : Hav L vs f) (x : Value × List UInt8) : Hav (x :: L) vs f :=
  ⟨h.size, fun n hn => by obtain ⟨v, h1, h2⟩ := h.at_ n hn; exact ⟨v, h1, h2.more x⟩⟩
theorem Hav.set {L : List (Value × List UInt8)} {vs : Array Value} {f g : Nat → Option (List UInt8)} (h : Hav L vs f) (N : Nat) (hN : N < 4) (u : Value) (hu : HavV L u (g N)) (hg : ∀ n, n < 4 → n ≠ N → g n = f n) : Hav L (vs.setIfInBounds N u) g := by
  refine ⟨by rw [Array.size_setIfInBounds]; exact h.size, fun n hn => ?_⟩
  rw [Array.getElem?_setIfInBounds]
  by_cases e : N = n
  · subst e
    rw [if_pos rfl, if_pos (by rw [h.size]; exact hN)]
    exact ⟨u, rfl, hu⟩
  · rw [if_neg e, hg n hn (fun x => e x.symm)]
    exact h.at_ n hn
def opnF (d : Dk.D) (n : Nat) : Option (List UInt8) := Dk.opn (Dk.cur d (n : Int))
theorem arr4 (v : Value) (h : v = .slice none 0 0) (L : List (Value × List UInt8)) (f : Nat → Option (List UInt8)) (hf : ∀ n, f n = none) : Hav L #[v, v, v, v] f := by
  subst h
  refine ⟨rfl, fun n hn => ⟨.slice none 0 0, ?_, by rw [hf]; exact rfl⟩⟩
  match n, hn with
  | 0, _ => rfl
  | 1, _ => rfl
  | 2, _ => rfl
  | 3, _ => rfl
theorem zeros_opn : Dk.opn Dk.zeros = none := by
  unfold Dk.opn
  rw [if_neg]
  unfold Stamp.openOk
  have hz : Dk.zeros.getD 0 0 = 0 := by
    unfold Dk.zeros
    rw [List.getD_eq_getElem?_getD, List.getElem?_replicate]
    split <;> rfl
  rw [hz]
  simp
theorem new_opn (n : Nat) : opnF (Dk.new 4) n = none := zeros_opn
abbrev doneCells (x : DoneD) : Array Value := #[.int .i64 x.n, .slice x.dA x.dn x.dc, .slice x.kA x.kn x.kc, .bool x.torn, .int .i64 x.cut, .bool x.falls]
def St (w : World) (hb i : Nat) (v : Value) (wr : World) : Prop := ∃ p d vs L, v = .pointer (some ⟨p, 0, none⟩) ∧ Dk.Q i d ∧ Hav L vs (opnF d) ∧ Sep w wr [.dsk p d, .cel hb 84 vs, .pool L]
def gOf (d d2 : Dk.D) (N : Nat) (want : List UInt8) (falls : Bool) (n : Nat) : Option (List UInt8) := if n = N then (if falls = true then opnF d N else some want) else opnF d2 n
/-- behind the sync, or the fall -/
def Aft (w : World) (hb i rc N : Nat) (x : DoneD) (d : Dk.D) (want : List UInt8) (L : List (Value × List UInt8)) (s3 : Value) (wx : World) : Prop :=
  ∃ p' d2 vs', s3 = .pointer (some ⟨p', 0, none⟩) ∧ Dk.Q (i + 1) d2 ∧ Hav L vs' (gOf d d2 N want x.falls) ∧ Sep w wx [.dsk p' d2, .cel hb 84 vs', .pool L, .cel rc 86 (doneCells x)] ∧
    (x.falls = true → ∀ q, opnF d2 N = some q → q = want ∨ opnF d N = some q) ∧ (x.falls = false → opnF d2 N = some want)
theorem sep_lastp {w0 w : World} {a b c d e : Res} (h : Sep w0 w [a, b, c, d, e]) : Sep w0 w [e, b, c, d] := by
  refine h.pick (fun i => if i = 0 then 4 else i) (fun i => if i = 4 then 0 else i) (fun i R hR => ?_)
  match i, hR with
  | 0, e => exact ⟨e, rfl⟩
  | 1, e => exact ⟨e, rfl⟩
  | 2, e => exact ⟨e, rfl⟩
  | 3, e => exact ⟨e, rfl⟩
  | n + 4, e => simp at e
set_option maxRecDepth 100000 in
set_option maxHeartbeats 16000000 in
theorem walk_main (A : Option Addr) (m cap : Nat) (l : List DoneD) (w : World) (hl : DS w A m l) (hmc : m ≤ cap) (hcm : cap ≤ maxLen) (hm40 : m ≤ 40) :
    Calls Try.prog 14 #[.slice A m cap] w fun e w' => e = .returned (.bool true) ∧ Below w.heap.size w w' := by
  unfold maxLen at hcm
  have hd40 : decide (40 < (m : Int)) = false := by simp; omega
  have HL := Lib.hid hl
  clear hl
  obtain ⟨i0, hi0, hz0, hz1, hz2⟩ := info_parts sinfo8
  have HI := Lib.hid (And.intro hi0 (And.intro hz0 (And.intro hz1 hz2)))
  clear hi0 hz0 hz1 hz2
  go_enter Try.func14, Try.ntmps14
  go_wp2_with fail
  refine (sep_new (Sep.nil (Below.refl _ w)) 4 (by omega)).mono ?_
  rintro e w1 ⟨p, rfl, h1⟩
  have h1' : Sep w (w1.alloc (.cells #[.slice none 0 0, .slice none 0 0, .slice none 0 0, .slice none 0 0] 84)) [.dsk p (Dk.new 4), .cel w1.heap.size 84 #[.slice none 0 0, .slice none 0 0, .slice none 0 0, .slice none 0 0]] := Sep.box h1 _ _
  have h2 : Sep w (w1.alloc (.cells #[.slice none 0 0, .slice none 0 0, .slice none 0 0, .slice none 0 0] 84)) [.dsk p (Dk.new 4), .cel w1.heap.size 84 #[.slice none 0 0, .slice none 0 0, .slice none 0 0, .slice none 0 0], .pool []] :=
    h1'.push (Below.refl _ _) (R := .pool []) (F := fun _ => False) ⟨(fun x hx => by cases hx), fun k x => x.elim⟩ (fun k x => x.elim)
  have H2 := Lib.hid (show St w w1.heap.size 0 (.pointer (some ⟨p, 0, none⟩)) (w1.alloc (.cells #[.slice none 0 0, .slice none 0 0, .slice none 0 0, .slice none 0 0] 84)) from ⟨p, _, _, _, rfl, Dk.q_new, arr4 _ rfl _ _ new_opn, h2⟩)
  clear h1 h1' h2
  go_wp2_with fail
  generalize w1.alloc (.cells #[.slice none 0 0, .slice none 0 0, .slice none 0 0, .slice none 0 0] 84) = w2 at *
  generalize w1.heap.size = hb at *
  go_loopg [3, 6] m (fun gk s3 s6 wr => ∃ (i : Nat), i ≤ m ∧ gk = m - i ∧ s6 = .int .i64 i ∧ St w hb i s3 wr)
  case atStart => exact ⟨0, by omega, by omega, rfl, H2.out⟩
  case round =>
    obtain ⟨i, hi, rfl, rfl, p, d, vs, L, rfl, hQ, hH, hS⟩ := hrel
    clear H2
    by_cases hlt : i < m
    · obtain ⟨b, off, rfl, c0, c1, c2, c3, c4, c5⟩ := (HL.out.below hS.1).at_ hlt
      have hil : i < l.length := by rw [HL.out.len]; exact hlt
      have hok0 : (l.getD i .zero).Ok w := HL.out.ok _ (by rw [List.getD_eq_getElem?_getD, List.getElem?_eq_getElem hil]; simp)
      generalize l.getD i .zero = x at *
      have hbox := hS.box 86 (doneCells x)
      have HB := Lib.hid (And.intro hbox (And.intro hQ (And.intro hH hok0)))
      have him : (i : Int) < (m : Int) := by omega
      clear hbox hQ hH hok0 hS hil
      go_upto_region 9 with fail
      generalize wr.alloc (.cells #[.int .i64 x.n, .slice x.dA x.dn x.dc, .slice x.kA x.kn x.kc, .bool x.torn, .int .i64 x.cut, .bool x.falls] 86) = w3 at *
      generalize wr.heap.size = rc at *
      have HS := Lib.hid (show Sep w w3 [.dsk p d, .cel hb 84 vs, .pool L, .cel rc 86 (doneCells x)] from HB.out.1)
      have HP := Lib.hid (And.intro HB.out.2.1 (And.intro HB.out.2.2.1 HB.out.2.2.2))
      clear HB c0 c1 c2 c3 c4 c5
      have HC := Lib.hid (show ∀ w', Blk w' rc 86 (doneCells x) → (w'.cell? ⟨rc, 0, none⟩ = some (.int .i64 x.n) ∧ w'.cell? ⟨rc, 1, none⟩ = some (.slice x.dA x.dn x.dc) ∧ w'.cell? ⟨rc, 2, none⟩ = some (.slice x.kA x.kn x.kc) ∧ w'.cell? ⟨rc, 3, none⟩ = some (.bool x.torn) ∧ w'.cell? ⟨rc, 4, none⟩ = some (.int .i64 x.cut) ∧ w'.cell? ⟨rc, 5, none⟩ = some (.bool x.falls)) from fun w' hb => ⟨hb.cell 0, hb.cell 1, hb.cell 2, hb.cell 3, hb.cell 4, hb.cell 5⟩)
      have hcl := HC.out w3 (HS.out.cel (i := 3) rfl)
      have c0 := hcl.1
      have c1 := hcl.2.1
      have c2 := hcl.2.2.1
      clear hcl
      by_cases hskip : x.n < 0 ∨ 3 < x.n ∨ 254 < x.dn ∨ 20 < x.kn
      · have HN := Lib.hid (show St w hb (i + 1) (.pointer (some ⟨p, 0, none⟩)) w3 from ⟨p, d, vs, L, rfl, Dk.q_more HP.out.1, HP.out.2.1, Sep.left (Rs' := [.cel rc 86 (doneCells x)]) HS.out⟩)
        have hways : (decide (x.n < 0) = true) ∨ (decide (x.n < 0) = false ∧ decide (3 < x.n) = true) ∨ (decide (x.n < 0) = false ∧ decide (3 < x.n) = false ∧ decide (254 < (x.dn : Int)) = true) ∨ (decide (x.n < 0) = false ∧ decide (3 < x.n) = false ∧ decide (254 < (x.dn : Int)) = false ∧ decide (20 < (x.kn : Int)) = true) := by
          simp only [decide_eq_true_eq, decide_eq_false_iff_not]
          omega
        clear hskip HS HP HC
        rcases hways with a1 | ⟨a1, a2⟩ | ⟨a1, a2, a3⟩ | ⟨a1, a2, a3, a4⟩
        all_goals
          go_wp2_with fail
          go_roundg (m - (i + 1))
          case measure => omega
          case rel => exact ⟨i + 1, by omega, rfl, by go_num, HN.out⟩
      · have a1 : decide (x.n < 0) = false := by simp; omega
        have a2 : decide (3 < x.n) = false := by simp; omega
        have a3 : decide (254 < (x.dn : Int)) = false := by simp; omega
        have a4 : decide (20 < (x.kn : Int)) = false := by simp; omega
        obtain ⟨N, hN⟩ : ∃ N : Nat, x.n = N := ⟨x.n.toNat, by omega⟩
        have hN4 : N < 4 := by omega
        have hdn : x.dn ≤ 254 := by omega
        have hkn : x.kn ≤ 20 := by omega
        have hdl : x.data.length ≤ 254 := by rw [HP.out.2.2.data.1]; exact hdn
        have HX := Lib.hid (And.intro hN hdl)
        clear hskip hN hdl
        go_wp2_with fail
        refine (own05_any x.dA x.dn x.dc x.data w3 (HP.out.2.2.data.below HS.out.1) (by omega)).mono ?_
        rintro e w4 ⟨v4, rfl, hown4, hb4⟩
        rw [HP.out.2.2.data.1] at hown4
        have H4 := Lib.hid (And.intro hown4 hb4)
        clear hown4 hb4 c0 c1 c2 a1 a2 a3 a4
        go_wp2_with fail
        go_loopg [8] (254 - x.dn) (fun gk s8 wr => ∃ (j : Nat), x.dn + j ≤ 254 ∧ gk = 254 - x.dn - j ∧ wr.ownsRow w3.heap.size 5 1 s8 (x.dn + j) (u8s (x.data ++ List.replicate j 0)) ∧ Below w3.heap.size w3 wr)
        case atStart => exact ⟨0, by omega, by omega, by simpa using H4.out.1, H4.out.2⟩
        case round =>
          obtain ⟨j, hj, rfl, hown, hbw⟩ := hrel
          clear H4
          obtain ⟨A5, c5, rfl⟩ := own_slice hown
          by_cases hjl : x.dn + j < 254
          · have hB0 : BS (wr.alloc (.cells #[Value.int .u8 0] 5)) (some ⟨wr.heap.size, 0, none⟩) 1 [0] := BS.made wr _ _ _ [0] rfl
            have HO := Lib.hid (And.intro (hown.alloc (.cells #[Value.int .u8 0] 5)) (And.intro hbw (And.intro hB0 hown)))
            have hsz := hbw.size
            clear hown hbw hB0
            go_wp2_with (at_builtin; refine wpList_append_bs _ rfl (.tmp 57) (.tmp 58) 22 rfl w3.heap.size 5 i0 Try.underlying22 HI.out.1 HI.out.2.1 HI.out.2.2.1 HI.out.2.2.2 (.slice A5 (x.dn + j) c5) (x.dn + j) (u8s (x.data ++ List.replicate j 0)) rfl HO.out.1 (some ⟨wr.heap.size, 0, none⟩) 1 1 [0] rfl HO.out.2.2.1 (by omega) (by simp; omega) ?_; intro v6 w6 hown6 hg6 hat6; have HG := Lib.hid (And.intro hown6 hg6); clear hown6 hg6 hat6)
            go_roundg (254 - x.dn - (j + 1))
            case measure => omega
            case rel =>
              refine ⟨j + 1, by omega, rfl, ?_, ?_⟩
              · have := HG.out.1
                rw [← u8s_append, List.append_assoc, ← List.replicate_succ'] at this
                exact this
              · exact (HO.out.2.1.alloc HO.out.2.1.size _).grown HG.out.2 (by simp; omega) (fun k e => (HO.out.2.2.2.lt k e).1)
          · have hwant : x.data ++ List.replicate j 0 = Dk.wantOf x.data := by
              unfold Dk.wantOf
              rw [HP.out.2.2.data.1, show 254 - x.dn = j by omega]
            have hwl := Dk.wantOf_length x.data HX.out.2
            rw [hwant] at hown
            have hsb := HS.out.bytes (v := .slice A5 (x.dn + j) c5) (bs := Dk.wantOf x.data) (w' := wr) (by rw [hwl, show (254 : Nat) = x.dn + j by omega]; exact hown) hbw
            rw [hwl, show x.dn + j = 254 by omega] at hsb
            have hpour := hsb.pour 2 4 (by omega) rfl rfl (by omega)
            have hS5 : Sep w wr [.dsk p d, .cel hb 84 vs, .pool ((.slice A5 254 c5, Dk.wantOf x.data) :: L), .cel rc 86 (doneCells x)] := Sep.left (Rs' := [.non]) hpour
            rw [show x.dn + j = 254 by omega]
            have hcl := HC.out wr (hS5.cel (i := 3) rfl)
            have c0 := hcl.1
            rw [HX.out.1] at c0
            have c1 := hcl.2.1
            have HA := Lib.hid hS5
            have HW := Lib.hid hwl
            have HSc := And.intro c0 c1
            clear hwant hwl hown hsb hpour hS5 hcl hbw HS c0 c1 hj hjl
            go_upto_region 13 with fail
            generalize hwt : Dk.wantOf x.data = want at *
            have HWT := Lib.hid hwt
            clear hwt
            go_cut [67] (fun s67 wx => s67 = .bool false ∧ Sep w wx [.dsk p (Dk.put d N (Dk.secOf d N x.data)), .cel hb 84 vs, .pool ((.slice A5 254 c5, want) :: L), .cel rc 86 (doneCells x)])
            case first =>
              go_region_held3 (fun w' => w'.cell? ⟨rc, 0, none⟩ = some (.int .i64 (N : Int)) ∧ w'.cell? ⟨rc, 1, none⟩ = some (.slice x.dA x.dn x.dc)) ((first | exact HSc)) (first
                | (go_at_call 17; go_must (refine (own05_any x.dA x.dn x.dc x.data _ (HP.out.2.2.data.below (HA.out.1.trans (show Below w.heap.size wr wr.drew from ⟨rfl, rfl, rfl, Nat.le_refl _, fun _ _ => rfl⟩))) (by omega)).mono ?_; rintro e w6 ⟨v6, rfl, hown6, hb6⟩; rw [HP.out.2.2.data.1] at hown6; obtain ⟨A6, c6, rfl⟩ := own_slice hown6; have hS6 := HA.out.grow (below_undrew hb6); have hcl := HC.out w6 (hS6.cel (i := 3) rfl); rw [HX.out.1] at hcl; have HSc := And.intro hcl.1 hcl.2.1; have HA := Lib.hid hS6; have HO := Lib.hid (BS.of_own hown6); clear hown6 hb6 hS6 hcl))
                | (go_at_call 25; go_must (refine (sep_put HA.out (i := 0) rfl HP.out.1.ok (by rw [HP.out.1.pend]; simp) (N : Int) (bs := x.data) HO.out).mono ?_; rw [Dk.put_q HP.out.1 (by omega) (by omega) HX.out.2]; rintro e w7 ⟨rfl, h7⟩; have hcl := HC.out w7 (h7.cel (i := 3) rfl); rw [HX.out.1] at hcl; have HSc := And.intro hcl.1 hcl.2.1; have HA := Lib.hid h7; clear h7 hcl)))
              all_goals
                go_wp2_with fail
                go_meet
                case rel => exact ⟨rfl, HA.out⟩
            case rest =>
              obtain ⟨rfl, hS7⟩ := hcut
              clear HA HSc
              have hcl := HC.out wc (hS7.cel (i := 3) rfl)
              have c5f := hcl.2.2.2.2.2
              have HA := Lib.hid hS7
              clear hcl hS7
              go_upto_if 70 with fail
              go_cut [3] (fun s3 wx => Aft w hb i rc N x d want ((.slice A5 254 c5, want) :: L) s3 wx)
              case first =>
                cases hfl : x.falls with
                | false =>
                  rw [hfl] at c5f
                  go_wp2_with fail
                  refine (sep_sync HA.out (i := 0) rfl (Dk.put_ok2 HP.out.1 (by omega) (by omega) HX.out.2) (by have := HP.out.1.syncs; show d.syncs ≤ _; omega)).mono ?_
                  rw [Dk.sync_put HP.out.1]
                  rintro e w8 ⟨rfl, h8⟩
                  have hcl := HC.out w8 (h8.cel (i := 3) rfl)
                  have c08 := hcl.1
                  rw [HX.out.1] at c08
                  obtain ⟨vN, hvN, _⟩ := HP.out.2.1.at_ N hN4
                  have hblk := h8.cel (i := 1) rfl
                  have chb : w8.cell? ⟨hb, N, none⟩ = some vN := (hblk.cell N).trans hvN
                  have fhb := hblk.free N
                  have hNi : (N : Int) < 4 := by omega
                  have hset := h8.setCel (i := 1) (o := N) rfl (.slice A5 254 c5)
                  have H8 := Lib.hid hset
                  clear hcl hblk h8 hset hvN c5f
                  go_wp2_with fail
                  go_meet
                  case rel =>
                    have hcurN : opnF (Dk.kept d N x.data) N = some want := by
                      unfold opnF
                      rw [Dk.kept_cur HP.out.1, if_pos rfl, Dk.opn_sec HX.out.2, HWT.out]
                    refine ⟨p, Dk.kept d N x.data, _, rfl, Dk.kept_q HP.out.1 (by omega) (by omega) HX.out.2, ?_, H8.out, (fun e => by rw [hfl] at e; cases e), fun _ => hcurN⟩
                    refine (HP.out.2.1.more _).set N hN4 (.slice A5 254 c5) ?_ (fun n hn hne => ?_)
                    · unfold gOf; rw [if_pos rfl, hfl, if_neg (by simp)]; exact List.mem_cons_self
                    · unfold gOf opnF
                      rw [if_neg hne, Dk.kept_cur HP.out.1, if_neg (by omega)]
                | true =>
                  rw [hfl] at c5f
                  have hcl := HC.out wc (HA.out.cel (i := 3) rfl)
                  have HSc := And.intro hcl.2.2.1 (And.intro hcl.2.2.2.1 hcl.2.2.2.2.1)
                  clear hcl
                  go_upto_region 19 with fail
                  go_region_held3 (fun w' => w'.cell? ⟨rc, 2, none⟩ = some (.slice x.kA x.kn x.kc) ∧ w'.cell? ⟨rc, 3, none⟩ = some (.bool x.torn) ∧ w'.cell? ⟨rc, 4, none⟩ = some (.int .i64 x.cut)) ((first | exact HSc)) (first
                    | (go_at_call 48; go_must (refine (own2_any x.kA x.kn x.kc x.keep _ (HP.out.2.2.keep.below (HA.out.1.trans (show Below w.heap.size wc wc.drew from ⟨rfl, rfl, rfl, Nat.le_refl _, fun _ _ => rfl⟩))) (by omega)).mono ?_; rintro e w6 ⟨A6, c6, rfl, his6, hb6⟩; have hS6 := HA.out.grow (below_undrew hb6); have hcl := HC.out w6 (hS6.cel (i := 3) rfl); have HSc := And.intro hcl.2.2.1 (And.intro hcl.2.2.2.1 hcl.2.2.2.2.1); have HA := Lib.hid hS6; have HO := Lib.hid his6; clear his6 hb6 hS6 hcl))
                    | (go_at_call 31; go_must (refine (sep_crash HA.out (i := 0) rfl (Dk.put_ok2 HP.out.1 (by omega) (by omega) HX.out.2) (by rw [Dk.put_pend HP.out.1]; simp) A6 x.kn c6 x.keep x.torn x.cut HO.out (by omega)).mono ?_; rintro e w7 ⟨y, rfl, _, h7⟩; have hcl := HC.out w7 (h7.cel (i := 3) rfl); have HSc := And.intro hcl.2.2.1 (And.intro hcl.2.2.2.1 hcl.2.2.2.2.1); have HA := Lib.hid h7; clear h7 hcl)))
                  all_goals
                    go_wp2_with fail
                    go_meet
                    case rel =>
                      refine ⟨y, Dk.fallen d N x.data x.keep x.torn x.cut, vs, rfl, Dk.fallen_q HP.out.1 (by omega) (by omega) HX.out.2 _ _ _, ?_, sep_lastp HA.out, (fun _ q hq => ?_), (fun e => by rw [hfl] at e; cases e)⟩
                      · have hm := HP.out.2.1.more (.slice A5 254 c5, want)
                        refine ⟨hm.size, fun n hn => ?_⟩
                        obtain ⟨v, hv1, hv2⟩ := hm.at_ n hn
                        refine ⟨v, hv1, ?_⟩
                        have : gOf d (Dk.fallen d N x.data x.keep x.torn x.cut) N want x.falls n = opnF d n := by
                          unfold gOf
                          by_cases e : n = N
                          · rw [if_pos e, if_pos hfl, e]
                          · rw [if_neg e]; unfold opnF; rw [Dk.fallen_cur HP.out.1, if_neg (by omega)]
                        rw [this]
                        exact hv2
                      · have := Dk.fallen_opn HP.out.1 HX.out.2 x.keep x.torn x.cut hq
                        rw [HWT.out] at this
                        exact this
              case rest =>
                obtain ⟨p', d2, vs', rfl, hQ2, hH2, hS2, hf2, hn2⟩ := hcut
                have HQ := Lib.hid (And.intro hQ2 (And.intro hf2 hn2))
                have H2 := Lib.hid (And.intro hH2 hS2)
                clear hQ2 hf2 hn2 hH2 hS2 HA c5f
                go_wp2_with fail
                go_loopg [9] 4 (fun gk s9 wr => ∃ (n : Nat) (us : Array Value), n ≤ 4 ∧ gk = 4 - n ∧ s9 = .int .i64 n ∧ Hav ((.slice A5 254 c5, want) :: L) us (fun k => if k < n then opnF d2 k else gOf d d2 N want x.falls k) ∧ Sep w wr [.dsk p' d2, .cel hb 84 us, .pool ((.slice A5 254 c5, want) :: L), .cel rc 86 (doneCells x)])
                case atStart => exact ⟨0, vs', by omega, by omega, rfl, by simpa using H2.out.1, H2.out.2⟩
                case round =>
                  obtain ⟨n, us, hn, rfl, rfl, hH3, hS3⟩ := hrel
                  clear H2
                  by_cases hnl : n < 4
                  · have hg := Dk.get_q HQ.out.1 (n := (n : Int)) (by omega) (by omega)
                    have HS3 := Lib.hid hS3
                    have HG := Lib.hid hg
                    clear hS3 hg
                    have hn4i : (n : Int) < 4 := by omega
                    go_wp2_with fail
                    refine (sep_get HS3.out (i := 0) rfl HQ.out.1.ok n).mono ?_
                    rw [HG.out]
                    obtain ⟨v, hv1, hv2⟩ := hH3.at_ n hnl
                    simp only [Nat.lt_irrefl, if_false] at hv2
                    cases ho : Dk.opn (Dk.cur d2 n) with
                    | none =>
                      rintro e w7 ⟨A7, k7, rfl, _, _, _, hb7⟩
                      have hS7 := HS3.out.grow hb7
                      have hcl := HC.out w7 (hS7.cel (i := 3) rfl)
                      rw [HX.out.1] at hcl
                      have c0 := hcl.1
                      have c5f := hcl.2.2.2.2.2
                      have hblk := hS7.cel (i := 1) rfl
                      have chb : w7.cell? ⟨hb, n, none⟩ = some v := (hblk.cell n).trans hv1
                      have fhb := hblk.free n
                      clear hcl hblk hb7 HS3 HG
                      by_cases hnN : n = N
                      · subst hnN
                        have hfl : x.falls = true := by
                          cases hx : x.falls with
                          | true => rfl
                          | false => have := HQ.out.2.2 hx; unfold opnF at this; rw [ho] at this; cases this
                        rw [hfl] at c5f
                        have hset := hS7.setCel (i := 1) (o := n) rfl (.slice none 0 0)
                        have hnew : Hav ((.slice A5 254 c5, want) :: L) (us.setIfInBounds n (.slice none 0 0)) (fun k => if k < n + 1 then opnF d2 k else gOf d d2 n want x.falls k) := by
                          refine hH3.set n hnl (.slice none 0 0) ?_ (fun k hk hne => ?_)
                          · simp only [Nat.lt_succ_self, if_true]; unfold opnF; rw [ho]; exact rfl
                          · by_cases hkn : k < n
                            · simp only [hkn, if_true, show k < n + 1 by omega]
                            · simp only [hkn, if_false, show ¬ k < n + 1 by omega]
                        have HZ := Lib.hid (And.intro hset hnew)
                        clear hset hnew hS7 hH3 hv1 hv2 ho
                        go_wp2_with fail
                        go_roundg (4 - (n + 1))
                        case measure => omega
                        case rel => exact ⟨n + 1, _, by omega, rfl, by go_num, HZ.out.2, HZ.out.1⟩
                      · have hne : ((n : Int) == (N : Int)) = false := by rw [beq_eq_false_iff_ne]; omega
                        have hvn : v = .slice none 0 0 := by
                          unfold gOf at hv2
                          rw [if_neg hnN] at hv2
                          unfold opnF at hv2
                          rw [ho] at hv2
                          exact hv2
                        subst hvn
                        have hnew : Hav ((.slice A5 254 c5, want) :: L) us (fun k => if k < n + 1 then opnF d2 k else gOf d d2 N want x.falls k) := by
                          refine ⟨hH3.size, fun k hk => ?_⟩
                          obtain ⟨u, hu1, hu2⟩ := hH3.at_ k hk
                          refine ⟨u, hu1, ?_⟩
                          by_cases hkn : k < n
                          · simp only [hkn, if_true] at hu2; simp only [show k < n + 1 by omega, if_true]; exact hu2
                          · simp only [hkn, if_false] at hu2
                            by_cases hke : k = n
                            · subst hke; simp only [show k < k + 1 by omega, if_true]; unfold gOf at hu2; rw [if_neg hnN] at hu2; exact hu2
                            · simp only [show ¬ k < n + 1 by omega, if_false]; exact hu2
                        have HZ := Lib.hid (And.intro hS7 hnew)
                        clear hnew hS7 hH3 hv1 hv2 ho
                        go_wp2_with fail
                        go_roundg (4 - (n + 1))
                        case measure => omega
                        case rel => exact ⟨n + 1, us, by omega, rfl, by go_num, HZ.out.2, HZ.out.1⟩
                    | some q =>
                      have hql := Dk.opn_length HQ.out.1 ho
                      rintro e w7 ⟨A7, k7, rfl, hB7, _, _, hb7⟩
                      simp only [hql] at hB7 ⊢
                      have hS7 := HS3.out.grow hb7
                      have hcl := HC.out w7 (hS7.cel (i := 3) rfl)
                      rw [HX.out.1] at hcl
                      have c0 := hcl.1
                      have c5f := hcl.2.2.2.2.2
                      have hblk := hS7.cel (i := 1) rfl
                      have chb : w7.cell? ⟨hb, n, none⟩ = some v := (hblk.cell n).trans hv1
                      have fhb := hblk.free n
                      clear hcl hblk hb7 HS3 HG
                      obtain ⟨AW, cW, eW, hBW, _, _⟩ := hS7.pooled (i := 2) rfl (List.mem_cons_self (a := (Value.slice A5 254 c5, want)))
                      rw [HW.out] at eW hBW
                      injection eW with eW1 _ eW2
                      subst eW1
                      subst eW2
                      have hkeep : (v, q) ∈ ((.slice A5 254 c5, want) :: L) → Hav ((.slice A5 254 c5, want) :: L) us (fun k => if k < n + 1 then opnF d2 k else gOf d d2 N want x.falls k) := by
                        intro hvq
                        refine ⟨hH3.size, fun k hk => ?_⟩
                        obtain ⟨u, hu1, hu2⟩ := hH3.at_ k hk
                        refine ⟨u, hu1, ?_⟩
                        by_cases hkn : k < n
                        · simp only [hkn, if_true] at hu2; simp only [show k < n + 1 by omega, if_true]; exact hu2
                        · simp only [hkn, if_false] at hu2
                          by_cases hke : k = n
                          · subst hke
                            simp only [show k < k + 1 by omega, if_true]
                            rw [hv1] at hu1
                            injection hu1 with hu1
                            subst hu1
                            unfold opnF
                            rw [ho]
                            exact hvq
                          · simp only [show ¬ k < n + 1 by omega, if_false]; exact hu2
                      by_cases hnN : n = N
                      · subst hnN
                        have hne : ((n : Int) == (n : Int)) = true := by simp
                        by_cases hqw : q = want
                        · subst hqw
                          have hset := hS7.setCel (i := 1) (o := n) rfl (.slice A5 254 c5)
                          have hnew : Hav ((.slice A5 254 c5, q) :: L) (us.setIfInBounds n (.slice A5 254 c5)) (fun k => if k < n + 1 then opnF d2 k else gOf d d2 n q x.falls k) := by
                            refine hH3.set n hnl (.slice A5 254 c5) ?_ (fun k hk hne => ?_)
                            · simp only [Nat.lt_succ_self, if_true]; unfold opnF; rw [ho]; exact List.mem_cons_self
                            · by_cases hkn : k < n
                              · simp only [hkn, if_true, show k < n + 1 by omega]
                              · simp only [hkn, if_false, show ¬ k < n + 1 by omega]
                          have HZ := Lib.hid (And.intro hB7 (And.intro hBW (And.intro hS7 (And.intro hnew hv1))))
                          clear hB7 hBW hS7 hnew hkeep hH3 hv1 hv2 ho hset
                          go_wp2_with fail
                          refine (same_any A7 A5 254 254 k7 c5 q q w7 HZ.out.1 HZ.out.2.1 (by omega) (by omega)).mono ?_
                          rintro e w8 ⟨rfl, hd8⟩
                          rw [decide_eq_true rfl]
                          have hS8 := HZ.out.2.2.1.grow hd8.below
                          have hblk := hS8.cel (i := 1) rfl
                          have chb8 : w8.cell? ⟨hb, n, none⟩ = some v := (hblk.cell n).trans HZ.out.2.2.2.2
                          have fhb8 := hblk.free n
                          have HY := Lib.hid (hS8.setCel (i := 1) (o := n) rfl (.slice A5 254 c5))
                          clear hd8 hS8 hblk c0 c5f chb fhb
                          go_wp2_with fail
                          go_roundg (4 - (n + 1))
                          case measure => omega
                          case rel => exact ⟨n + 1, _, by omega, rfl, by go_num, HZ.out.2.2.2.1, HY.out⟩
                        · have hvq : (v, q) ∈ ((.slice A5 254 c5, want) :: L) := by
                            unfold gOf at hv2
                            rw [if_pos rfl] at hv2
                            cases hx : x.falls with
                            | false => exact absurd (by have := HQ.out.2.2 hx; unfold opnF at this; rw [ho] at this; cases this; rfl) hqw
                            | true =>
                              rw [if_pos hx] at hv2
                              rcases HQ.out.2.1 hx q ho with h | h
                              · exact absurd h hqw
                              · rw [h] at hv2; exact hv2
                          obtain ⟨A9, c9, rfl, hB9, hc9, hm9⟩ := hS7.pooled (i := 2) rfl hvq
                          simp only [hql] at hB9 hv1 chb
                          have HZ := Lib.hid (And.intro hB7 (And.intro hBW (And.intro hS7 (And.intro (hkeep hvq) (And.intro hB9 hqw)))))
                          have hv1' := hv1
                          have HV1 := Lib.hid hv1
                          clear hB7 hBW hS7 hkeep hH3 hv1 hv1' hv2 ho hB9 hqw hvq hc9 hm9
                          go_wp2_with fail
                          refine (same_any A7 A5 254 254 k7 c5 q want w7 HZ.out.1 HZ.out.2.1 (by omega) (by omega)).mono ?_
                          rintro e w8 ⟨rfl, hd8⟩
                          rw [decide_eq_false HZ.out.2.2.2.2.2]
                          have hS8 := HZ.out.2.2.1.grow hd8.below
                          have hblk := hS8.cel (i := 1) rfl
                          have chb8 : w8.cell? ⟨hb, n, none⟩ = some (.slice A9 254 c9) := (hblk.cell n).trans HV1.out
                          have hcl := HC.out w8 (hS8.cel (i := 3) rfl)
                          rw [HX.out.1] at hcl
                          have c08 := hcl.1
                          have HY := Lib.hid (And.intro hS8 (And.intro (HZ.out.1.below hd8.below) (HZ.out.2.2.2.2.1.below hd8.below)))
                          clear hd8 hS8 hblk c0 c5f chb fhb hcl
                          go_wp2_with fail
                          refine (same_any A7 A9 254 254 k7 c9 q q w8 HY.out.2.1 HY.out.2.2 (by omega) (by omega)).mono ?_
                          rintro e w9 ⟨rfl, hd9⟩
                          rw [decide_eq_true rfl]
                          have H9 := Lib.hid (HY.out.1.grow hd9.below)
                          clear hd9 c08 chb8
                          go_wp2_with fail
                          go_roundg (4 - (n + 1))
                          case measure => omega
                          case rel => exact ⟨n + 1, us, by omega, rfl, by go_num, HZ.out.2.2.2.1, H9.out⟩
                      · have hne : ((n : Int) == (N : Int)) = false := by rw [beq_eq_false_iff_ne]; omega
                        have hvq : (v, q) ∈ ((.slice A5 254 c5, want) :: L) := by
                          unfold gOf at hv2
                          rw [if_neg hnN] at hv2
                          unfold opnF at hv2
                          rw [ho] at hv2
                          exact hv2
                        obtain ⟨A9, c9, rfl, hB9, hc9, hm9⟩ := hS7.pooled (i := 2) rfl hvq
                        simp only [hql] at hB9 chb
                        have HZ := Lib.hid (And.intro hB7 (And.intro hS7 (And.intro (hkeep hvq) hB9)))
                        clear hB7 hBW hS7 hkeep hH3 hv1 hv2 ho hB9 hvq hc9 hm9
                        go_wp2_with fail
                        refine (same_any A7 A9 254 254 k7 c9 q q w7 HZ.out.1 HZ.out.2.2.2 (by omega) (by omega)).mono ?_
                        rintro e w9 ⟨rfl, hd9⟩
                        rw [decide_eq_true rfl]
                        have H9 := Lib.hid (HZ.out.2.1.grow hd9.below)
                        clear hd9 c0 c5f chb fhb
                        go_wp2_with fail
                        go_roundg (4 - (n + 1))
                        case measure => omega
                        case rel => exact ⟨n + 1, us, by omega, rfl, by go_num, HZ.out.2.2.1, H9.out⟩
                  · obtain rfl : n = 4 := by omega
                    have HN := Lib.hid (show St w hb (i + 1) (.pointer (some ⟨p', 0, none⟩)) wr from ⟨p', d2, us, _, rfl, HQ.out.1, ⟨hH3.size, fun k hk => by obtain ⟨v, h1, h2⟩ := hH3.at_ k hk; exact ⟨v, h1, by simpa [hk] using h2⟩⟩, Sep.left (Rs' := [.cel rc 86 (doneCells x)]) hS3⟩)
                    clear hH3 hS3
                    go_wp2_with fail
                    go_roundg (m - (i + 1))
                    case measure => omega
                    case rel => exact ⟨i + 1, by omega, rfl, by go_num, HN.out⟩
    · have H := Lib.hid hS.1
      clear hS hQ hH
      go_wp2_with fail
      refine (awake05_any wr).mono ?_
      rintro e w9 ⟨rfl, hb9⟩
      have H9 := Lib.hid (H.out.trans (hb9.mono H.out.size))
      clear hb9
      go_wp2
      go_ret
      exact ⟨rfl, H9.out⟩


set_option maxRecDepth 100000 in
set_option maxHeartbeats 2000000 in
theorem walk (A : Option Addr) (m cap : Nat) (l : List DoneD) (w : World) (hl : DS w A m l) (hmc : m ≤ cap) (hcm : cap ≤ maxLen) :
    Calls Try.prog 14 #[.slice A m cap] w fun e w' => e = .returned (.bool true) ∧ Below w.heap.size w w' := by
  by_cases h40 : m ≤ 40
  · exact walk_main A m cap l w hl hmc hcm h40
  · have hd40 : decide (40 < (m : Int)) = true := by simp; omega
    unfold maxLen at hcm
    clear hl
    go_enter Try.func14, Try.ntmps14
    go_wp2_with fail
    refine (awake05_any w).mono ?_
    rintro e w10 ⟨rfl, hb10⟩
    go_wp2
    go_ret
    exact ⟨rfl, hb10⟩

theorem own : ownKnob Try.prog.godebug = none := by kernel_rfl
theorem laidOut : laidOutB Try.prog = true := by kernel_rfl
theorem params_ok : ∀ t ∈ Try.f14.params.toList, Try.prog.readableRec t = true ∧ t < Try.prog.types.size := by
  rw [Try.params14]
  intro t ht
  have ht' : t = 83 := by
    simpa using ht
  subst ht'
  exact ⟨(show Try.prog.readableRec 83 = true by kernel_rfl), of_decide_eq_true (show decide (83 < Try.prog.types.size) = true by kernel_rfl)⟩

set_option maxRecDepth 100000 in
theorem contract (H : Type) (enc : TypeId × Value → H) (W : World) (base : Nat) (args : Array Value) (ds gs : List (DataW H)) (before : List MemPlace)
    (hval : ∀ (j : Nat) t v, Try.f14.params[j]? = some t → args[j]? = some v → Value.okWide Try.prog W .any base t v)
    (hW : DataW.Whole enc Try.prog Try.f14.params.toList Rows.stampPutsSpec.vars false W args.toList ds gs before) :
    Calls Try.prog 14 args W fun e W' => ∃ v, e = .returned v ∧ Rows.stampPutsSpec.post enc Try.prog Try.f14 false true false false W args v W' := by
  have hW' := hW
  obtain ⟨p, q, hA0, hV, rfl, hfz, hnd⟩ := hW
  have hA : DataW.TrodAll enc Try.prog W 0 (fun _ => true) true Try.f14.params.toList args.toList ds p := hA0
  rw [Try.params14] at hA hval
  obtain ⟨v0, vs0, d0, ds0, p0, q0, hargs, rfl, rfl, h0, r0⟩ := trodAll_cons hA
  obtain ⟨rfl, rfl, rfl⟩ := trodAll_nil r0
  obtain rfl : args = #[v0] := by cases args; simp_all
  obtain ⟨rfl, rfl⟩ := trodVars_none hV
  obtain ⟨A0, n0, c0, l0, rfl, lh0, nc0, cm0⟩ := open_dones (hval 0 83 v0 rfl rfl) h0
  refine (walk A0 n0 c0 l0 W lh0 nc0 cm0).mono fun e W' ⟨he, bel⟩ => ?_
  exact ⟨_, he, post_true laidOut Try.underlying4 (show Try.f14.resultTypes = #[4] from rfl) params_ok rfl hW' rfl bel⟩

theorem laid_met (os : Os) : laidMet Try.prog Rows.stampPutsRow.laid ((World.holding Try.prog os ⟨#[], #[], []⟩).forCall (fun _ _ => 0) ⟨#[], #[.slice none 0 0], []⟩).memory :=
  laidMet_of_run' 8 (by kernel_rfl) (by kernel_rfl)
theorem reads (os : Os) {H : Type} (enc : TypeId × Value → H) : ∃ places, DataW.whole enc Try.prog ((World.holding Try.prog os ⟨#[], #[], []⟩).forCall (fun _ _ => 0) ⟨#[], #[.slice none 0 0], []⟩).memory Try.f14.params.toList Rows.stampPutsSpec.vars false (#[Value.slice none 0 0] : Array Value).toList 8 = some ([.nil], [], places) :=
  ⟨[], by kernel_rfl⟩
set_option maxRecDepth 100000 in
theorem lifted (os : Os) (started : os.Started) (H : Type) (enc : TypeId × Value → H) (F : Stop.Interp) :
    ReturnsInHanded {} Try.checked os 14 .any ((OpenSpec.ofChange Rows.stampPutsSpec).preRow enc Try.prog Try.f14 Rows.stampPutsRow.domain false Rows.stampPutsRow.laid) (((OpenSpec.ofChange Rows.stampPutsSpec).at F).post enc Try.prog Try.f14 false true false false) := by
  obtain ⟨places, hx⟩ := reads os enc
  refine returnsInHanded_of_row (C := Try.checked) (s := OpenSpec.ofChange Rows.stampPutsSpec) own started (by kernel_rfl) Try.func14
    (witness_row_at (enc := enc) (C := Try.checked) false (World.holding Try.prog os ⟨#[], #[], []⟩) #[.slice none 0 0] rfl (by kernel_rfl) (by kernel_rfl) (by kernel_rfl)
      (OpenSpec.preRow_of_cond 8 hx (by kernel_rfl) (fun k hk => by cases hk) (by kernel_rfl) (laid_met os))) ?_
  intro W base args ds gs before hval hW _ _ hsz hL _ _
  exact contract H enc W base args ds gs before hval hW
theorem said : Rows.StampPutsSaid :=
  OpenClaim.holds_of_cond 14 Try.f14 rfl rfl rfl rfl rfl rfl rfl ⟨rfl, rfl, rfl, rfl, rfl⟩ rfl rfl rfl rfl rfl (by kernel_rfl) Try.func14 (by kernel_rfl)
    (of_decide_eq_true (by kernel_rfl)) (by unfold Func.isWrapper; first | (rw [if_pos (by decide +kernel)]; kernel_rfl) | (rw [if_neg (by decide +kernel)]; exact ⟨rfl, rfl⟩))
    (fun os started H enc _ F => by rw [OpenClaim.pre_eq_preRow]; exact lifted os started H enc F)
#print axioms said
end Go.Proofs.Ytaooimhodoefoaa.stampPuts
