/- DiskPlays: whatever is called, in whatever order, also behind crashes and where the power goes, a disk answers as the document says; no condition. -/
import Derived.Test.YtaooimhodoefoaaPlayed
import Derived.Test.YtaooimhodoefoaaSteps2
namespace Go.Proofs.Ytaooimhodoefoaa.diskPlays
open Go.ChangeShapes Go.WideShapes Go.ChangeAt Go.RowKit Mem Lift
set_option linter.unusedVariables false
set_option linter.unusedSimpArgs false
attribute [local go_sem ↓] Go.wp_at_zero Go.wp_at_succ

structure DP (N : Int) (k : Nat) (d : Dk.D) : Prop where
  ok : Dk.Ok d
  nw : Dk.Nw d
  size : d.size = N
  pend : d.pend.length ≤ k
  syncs : d.syncs ≤ k
theorem dp_new (N : Int) (h : 1 ≤ N ∧ N ≤ 4096) : DP N 0 (Dk.new N) := ⟨Dk.new_ok N h, Dk.nw_new N, rfl, Nat.le_refl _, Int.le_refl _⟩
theorem dp_more {N : Int} {k : Nat} {d : Dk.D} (h : DP N k d) : DP N (k + 1) d := ⟨h.ok, h.nw, h.size, by have := h.pend; omega, by have := h.syncs; omega⟩
theorem dp_write {N : Int} {k : Nat} {d : Dk.D} (h : DP N k d) (n : Int) (s : List UInt8) : DP N (k + 1) (Dk.write d n s).2 := by
  refine ⟨Dk.write_ok h.ok n s, Dk.nw_write h.nw n s, ?_, ?_, ?_⟩
  all_goals
    unfold Dk.write
    have hp := h.pend
    have hs := h.syncs
    have hz := h.size
    split
    · first | exact hz | (dsimp only; omega)
    · split
      · first | exact hz | (dsimp only; omega)
      · split
        · first | (dsimp only; rw [Dk.step_size]; exact hz) | (dsimp only; rw [Dk.step_pend]; omega) | (dsimp only; rw [Dk.step_syncs]; omega)
        · first
          | (show (Dk.step d).2.size = N; rw [Dk.step_size]; exact hz)
          | (simp only [Dk.put, List.length_append, List.length_singleton, Dk.step_pend]; omega)
          | (show (Dk.step d).2.syncs ≤ _; rw [Dk.step_syncs]; omega)
theorem dp_sync {N : Int} {k : Nat} {d : Dk.D} (h : DP N k d) : DP N (k + 1) (Dk.sync d).2 := by
  refine ⟨Dk.sync_ok h.ok, Dk.nw_sync h.nw, ?_, ?_, ?_⟩
  all_goals
    unfold Dk.sync
    have hp := h.pend
    have hs := h.syncs
    have hz := h.size
    split
    · first | (dsimp only; rw [Dk.step_size]; exact hz) | (dsimp only; rw [Dk.step_pend]; omega) | (dsimp only; rw [Dk.step_syncs]; omega)
    · first
      | (show (Dk.step d).2.size = N; rw [Dk.step_size]; exact hz)
      | (simp [Dk.synced]; done)
      | (show (Dk.step d).2.syncs + 1 ≤ _; rw [Dk.step_syncs]; omega)
theorem dp_fused {N : Int} {k : Nat} {d : Dk.D} (h : DP N k d) (n : Int) (hn : n ≤ 9223372036854775807) : DP N (k + 1) (Dk.fused d n) := ⟨Dk.fused_ok h.ok n hn, Dk.nw_fused h.nw n, h.size, by have := h.pend; show d.pend.length ≤ _; omega, by have := h.syncs; show d.syncs ≤ _; omega⟩
theorem dp_crash {N : Int} {k : Nat} {d : Dk.D} (h : DP N k d) (ks : List Int) (torn : Bool) (cut : Int) : DP N (k + 1) (Dk.crash d ks torn cut) := ⟨Dk.crash_ok h.ok ks torn cut, Dk.nw_crash d ks torn cut, h.size, by simp [Dk.crash], by simp [Dk.crash]; omega⟩
/-- Write, of what has no sector's length -/
theorem rwrite_short (q : Nat) (d : Dk.D) (G : Nat → Prop) (n : Int) (A : Option Addr) (m cap : Nat) (bs : List UInt8) (w : World) (hD : RefAt w q d G) (hok : Dk.Ok d) (hbs : BS w A m bs) (hm : m ≠ 256) :
    Calls Try.prog 37 #[.pointer (some ⟨q, 0, none⟩), .int .i64 n, .slice A m cap] w (RWriteTo w G q (Dk.write d n bs)) := by
  have hlen := hbs.1
  obtain ⟨sv, xs, lv, ys, hd⟩ := hD
  obtain ⟨c0, _⟩ := hd.cells
  have hg : ((m : Int) != 256) = true := by rw [bne_iff_ne]; omega
  rcases at_01 d n with ha | ha
  · have hR : Dk.write d n bs = (12, d) := by unfold Dk.write; rw [if_neg (by omega), if_pos (by omega)]
    rw [hR]
    have HD := Lib.hid (RefAt.to ⟨sv, xs, lv, ys, hd⟩)
    have H := Lib.hid hd
    clear hd hok hR hbs hlen
    go_enter Try.func37, Try.ntmps37
    go_wp2_with fail
    refine (ris_any q d sv xs n w c0 H.out.srow H.out.slen).mono ?_
    rintro e w1 ⟨rfl, hw1⟩
    subst hw1
    rw [ha]
    go_wp2
    go_ret
    exact ⟨rfl, HD.out⟩
  · have hR : Dk.write d n bs = (1, d) := by unfold Dk.write; rw [if_pos (by omega)]
    rw [hR]
    have HD := Lib.hid (RefAt.to ⟨sv, xs, lv, ys, hd⟩)
    have H := Lib.hid hd
    clear hd hok hR hbs hlen
    go_enter Try.func37, Try.ntmps37
    go_wp2_with fail
    refine (ris_any q d sv xs n w c0 H.out.srow H.out.slen).mono ?_
    rintro e w1 ⟨rfl, hw1⟩
    subst hw1
    rw [ha]
    go_wp2
    go_ret
    exact ⟨rfl, HD.out⟩
section
variable {w0 w : World} {T : List Res} {r1 r2 r3 : Res}
theorem sep_write3 {p : Nat} {d : Dk.D} {A : Option Addr} {m cap : Nat} {bs : List UInt8} (h : Sep w0 w (.dsk p d :: r1 :: r2 :: .byt (.slice A m cap) m bs :: T)) (hok : Dk.Ok d) (hlen : d.pend.length ≤ 1000000) (n : Int) :
    Calls Try.prog 36 #[.pointer (some ⟨p, 0, none⟩), .int .i64 n, .slice A m cap] w fun e w' => e = .returned (.int .i64 ((Dk.write d n bs).1 : Int)) ∧ Sep w0 w' (.dsk p (Dk.write d n bs).2 :: r1 :: r2 :: .byt (.slice A m cap) m bs :: T) :=
  sep_write h (i := 0) rfl hok hlen n (j := 3) rfl (by omega)
theorem sep_write4 {p : Nat} {d : Dk.D} {A : Option Addr} {m cap : Nat} {bs : List UInt8} (h : Sep w0 w (.dsk p d :: r1 :: r2 :: r3 :: .byt (.slice A m cap) m bs :: T)) (hok : Dk.Ok d) (hlen : d.pend.length ≤ 1000000) (n : Int) :
    Calls Try.prog 36 #[.pointer (some ⟨p, 0, none⟩), .int .i64 n, .slice A m cap] w fun e w' => e = .returned (.int .i64 ((Dk.write d n bs).1 : Int)) ∧ Sep w0 w' (.dsk p (Dk.write d n bs).2 :: r1 :: r2 :: r3 :: .byt (.slice A m cap) m bs :: T) :=
  sep_write h (i := 0) rfl hok hlen n (j := 4) rfl (by omega)
theorem sep_rwrite3 {q : Nat} {d : Dk.D} {A : Option Addr} {m cap : Nat} {bs : List UInt8} (h : Sep w0 w (r1 :: .ref q d :: r2 :: .byt (.slice A m cap) m bs :: T)) (hok : Dk.Ok d) (hlen : d.pend.length ≤ 1000000) (n : Int) :
    Calls Try.prog 37 #[.pointer (some ⟨q, 0, none⟩), .int .i64 n, .slice A m cap] w fun e w' => e = .returned (.int .i64 ((Dk.write d n bs).1 : Int)) ∧ Sep w0 w' (r1 :: .ref q (Dk.write d n bs).2 :: r2 :: .byt (.slice A m cap) m bs :: T) :=
  sep_rwrite h (i := 1) rfl hok hlen n (j := 3) rfl (by omega)
theorem sep_rwrite4 {q : Nat} {d : Dk.D} {A : Option Addr} {m cap : Nat} {bs : List UInt8} (h : Sep w0 w (r1 :: .ref q d :: r2 :: r3 :: .byt (.slice A m cap) m bs :: T)) (hok : Dk.Ok d) (hlen : d.pend.length ≤ 1000000) (n : Int) :
    Calls Try.prog 37 #[.pointer (some ⟨q, 0, none⟩), .int .i64 n, .slice A m cap] w fun e w' => e = .returned (.int .i64 ((Dk.write d n bs).1 : Int)) ∧ Sep w0 w' (r1 :: .ref q (Dk.write d n bs).2 :: r2 :: r3 :: .byt (.slice A m cap) m bs :: T) :=
  sep_rwrite h (i := 1) rfl hok hlen n (j := 4) rfl (by omega)
theorem sep_rwriteA {q : Nat} {d : Dk.D} {A : Option Addr} {m cap : Nat} {bs : List UInt8} (h : Sep w0 w (r1 :: .ref q d :: T)) (hok : Dk.Ok d) (hlen : d.pend.length ≤ 1000000) (n : Int) (hbs : BS w0 A m bs) :
    Calls Try.prog 37 #[.pointer (some ⟨q, 0, none⟩), .int .i64 n, .slice A m cap] w fun e w' => e = .returned (.int .i64 ((Dk.write d n bs).1 : Int)) ∧ Sep w0 w' (r1 :: .ref q (Dk.write d n bs).2 :: T) := by
  rcases Nat.eq_zero_or_pos m with rfl | hm
  · have hb0 : bs = [] := List.eq_nil_of_length_eq_zero hbs.1
    subst hb0
    obtain ⟨F, hF, hF0, hby, hturn⟩ := h.open_ 1 _ rfl
    have hq : F q := by obtain ⟨_, _, _, _, hr⟩ := hF; exact hr.footq
    refine (rwrite_short q d F n A 0 cap [] w hF hok (BS.empty _ _) (by omega)).mono ?_
    rintro e w' ⟨rfl, F', g1, g2, g3⟩
    exact ⟨rfl, hturn w' (.ref q (Dk.write d n []).2) F' g1 g2 g3⟩
  · obtain ⟨b, off, e, hb, _⟩ := hbs.2 hm
    exact sep_rwrite_arg h (i := 1) rfl hok hlen n (hbs.below h.1) (fun a e' => by rw [e] at e'; injection e' with e'; subst e'; exact hb)
theorem sep_append {h0 m : Nat} {w' : World} {v : Value} {bs : List UInt8} (h : Sep w0 w (r1 :: r2 :: r3 :: .cel h0 5 #[] :: T)) (ho : w'.ownsRow h0 5 1 v m (u8s bs)) (hg : w.grownBy w' (some h0)) (hat : v.ownBlock = some h0 ∨ v.ownBlock = some w.heap.size) : Sep w0 w' (r1 :: r2 :: r3 :: .byt v m bs :: T) := by
  obtain ⟨F, hF, hF0, hby, hturn⟩ := h.open_ 3 _ rfl
  refine hturn w' (.byt v m bs) (fun k => v.ownBlock = some k) ⟨own_base ho (Nat.zero_le _), fun k e => e, fun k e => own_lt ho e⟩ ((Fr.refl F w).grown hg (fun k e _ => by injection e with e; subst e; exact hF.2.1)) (fun k e => ?_)
  rcases hat with hat | hat
  · rw [hat] at e; injection e with e; subst e; exact .inl hF.2.1
  · rw [hat] at e; injection e with e; subst e; exact .inr (Nat.le_refl _)
theorem sep_two {a b : Res} (h : Sep w0 w (a :: b :: T)) : Sep w0 w [a, b] := Sep.left (Rs' := T) h
theorem sep_last {a b c d e : Res} (h : Sep w0 w [a, b, c, d, e]) : Sep w0 w [d, e] := by
  refine h.pick (fun i => i + 3) (fun i => i - 3) (fun i R hR => ?_)
  match i, hR with
  | 0, e => exact ⟨e, rfl⟩
  | 1, e => exact ⟨e, rfl⟩
  | n + 2, e => simp at e
end
theorem read_len {d : Dk.D} (h : Dk.Ok d) (n : Int) : (Dk.read d n).1.length ≤ 256 := by
  unfold Dk.read
  split
  · simp
  · split
    · simp
    · dsimp only; rw [Dk.cur_length h n]; omega
/-- the state at a round's head -/
def At (w : World) (N : Int) (k : Nat) (s5 s7 : Value) (wr : World) : Prop := ∃ p q d, s5 = .pointer (some ⟨p, 0, none⟩) ∧ s7 = .pointer (some ⟨q, 0, none⟩) ∧ DP N k d ∧ Sep w wr [.dsk p d, .ref q d]
set_option maxRecDepth 100000 in
set_option maxHeartbeats 16000000 in
theorem walk_main (N : Int) (A : Option Addr) (m cap : Nat) (l : List CallD) (w : World) (hN : 1 ≤ N ∧ N ≤ 64) (hl : CS w A m l) (hmc : m ≤ cap) (hcm : cap ≤ maxLen) (hlong : longB l = false) :
    Calls Try.prog 12 #[.int .i64 N, .slice A m cap] w fun e w' => e = .returned (.bool true) ∧ Below w.heap.size w w' := by
  have hcm' := hcm
  unfold maxLen at hcm
  obtain ⟨hN1, hN2⟩ := hN
  have hm60 : m ≤ 60 := by have := (longB_false hlong).1; rw [hl.len] at this; exact this
  have HL := Lib.hid (And.intro hl (And.intro hlong hcm'))
  clear hl hlong hcm'
  have hd64 : decide (64 < N) = false := by simp; omega
  obtain ⟨i0, hi0, hz0, hz1, hz2⟩ := info_parts rinfo8
  have HI := Lib.hid (And.intro hi0 (And.intro hz0 (And.intro hz1 hz2)))
  clear hi0 hz0 hz1 hz2
  go_enter Try.func12, Try.ntmps12
  go_wp2_with fail
  refine (long_any A m cap l w HL.out.1 hmc hcm).mono ?_
  rintro e w0 ⟨rfl, hw⟩
  subst hw
  rw [HL.out.2.1]
  go_wp2_with fail
  refine (sep_new (Sep.nil (Below.refl _ w)) N (by omega)).mono ?_
  rintro e w1 ⟨p, rfl, h1⟩
  have H1 := Lib.hid h1
  clear h1
  go_wp2_with fail
  refine (sep_rnew H1.out N (by omega)).mono ?_
  rintro e w2 ⟨q, rfl, h2⟩
  have H2 := Lib.hid (show At w N 0 (.pointer (some ⟨p, 0, none⟩)) (.pointer (some ⟨q, 0, none⟩)) w2 from ⟨p, q, _, rfl, rfl, dp_new N (by omega), h2⟩)
  clear h2 H1
  go_wp2_with fail
  go_loopg [5, 7, 9] m (fun gk s5 s7 s9 wr => ∃ (i : Nat), i ≤ m ∧ gk = m - i ∧ s9 = .int .i64 i ∧ At w N i s5 s7 wr)
  case atStart => exact ⟨0, by omega, by omega, rfl, H2.out⟩
  case round =>
    obtain ⟨i, hi, rfl, rfl, p, q, d, rfl, rfl, hdp, hS⟩ := hrel
    clear H2
    by_cases hlt : i < m
    · obtain ⟨b, off, rfl, c0, c1, c2, c3, c4, c5, c6, hok⟩ := (HL.out.1.below hS.1).at_ hlt
      have hil : i < l.length := by rw [HL.out.1.len]; exact hlt
      have hok0 : (l.getD i .zero).Ok w := HL.out.1.ok _ (by rw [List.getD_eq_getElem?_getD, List.getElem?_eq_getElem hil]; simp)
      have hlx := (longB_false HL.out.2.1).2 i (by rw [HL.out.1.len]; exact hlt)
      generalize l.getD i .zero = x at *
      have hbox := hS.box 70 #[.int .i64 x.kind, .int .i64 x.n, .int .u8 (x.b.toNat : Int), .slice x.dA x.dn x.dc, .slice x.kA x.kn x.kc, .bool x.torn, .int .i64 x.cut]
      have hkn := hlx.2
      have hdn := hlx.1
      have HB := Lib.hid (And.intro hbox (And.intro hdp (And.intro hok0 hok)))
      have him : (i : Int) < (m : Int) := by omega
      clear hbox hdp hok0 hok hS hlx hil
      go_upto_region 11 with fail
      generalize wr.alloc (.cells #[.int .i64 x.kind, .int .i64 x.n, .int .u8 (x.b.toNat : Int), .slice x.dA x.dn x.dc, .slice x.kA x.kn x.kc, .bool x.torn, .int .i64 x.cut] 70) = w3 at *
      generalize wr.heap.size = rc at *
      have HS := Lib.hid (show Sep w w3 [.dsk p d, .ref q d, .cel rc 70 #[.int .i64 x.kind, .int .i64 x.n, .int .u8 (x.b.toNat : Int), .slice x.dA x.dn x.dc, .slice x.kA x.kn x.kc, .bool x.torn, .int .i64 x.cut]] from HB.out.1)
      have HP := Lib.hid (And.intro HB.out.2.1 HB.out.2.2.1)
      clear HB c0 c1 c2 c3 c4 c5 c6
      generalize hcs : (#[.int .i64 x.kind, .int .i64 x.n, .int .u8 (x.b.toNat : Int), .slice x.dA x.dn x.dc, .slice x.kA x.kn x.kc, .bool x.torn, .int .i64 x.cut] : Array Value) = cs at *
      have HC := Lib.hid (show ∀ w', Blk w' rc 70 cs → (w'.cell? ⟨rc, 0, none⟩ = some (.int .i64 x.kind) ∧ w'.cell? ⟨rc, 1, none⟩ = some (.int .i64 x.n) ∧ w'.cell? ⟨rc, 2, none⟩ = some (.int .u8 (x.b.toNat : Int)) ∧ w'.cell? ⟨rc, 3, none⟩ = some (.slice x.dA x.dn x.dc) ∧ w'.cell? ⟨rc, 4, none⟩ = some (.slice x.kA x.kn x.kc) ∧ w'.cell? ⟨rc, 5, none⟩ = some (.bool x.torn) ∧ w'.cell? ⟨rc, 6, none⟩ = some (.int .i64 x.cut)) from fun w' hb => by
        subst hcs
        exact ⟨hb.cell 0, hb.cell 1, hb.cell 2, hb.cell 3, hb.cell 4, hb.cell 5, hb.cell 6⟩)
      clear hcs
      have c0 := (HC.out w3 (HS.out.cel (i := 2) rfl)).1
      go_upto_block 2 with fail
      go_cut [5, 7, 11] (fun s5 s7 s11 wx => s11 = .bool true ∧ At w N (i + 1) s5 s7 wx)
      case first =>
        by_cases h0 : x.kind = 0
        · have hk0 : (x.kind == 0) = true := by simpa using h0
          clear h0
          have HA := Lib.hid HS.out.drew
          have HSc := And.intro (HC.out w3 (HS.out.cel (i := 2) rfl)).2.1 (HC.out w3 (HS.out.cel (i := 2) rfl)).2.2.1
          go_upto_region 16 with fail
          go_region_held3 (fun w' => w'.cell? ⟨rc, 1, none⟩ = some (.int .i64 x.n) ∧ w'.cell? ⟨rc, 2, none⟩ = some (.int .u8 (x.b.toNat : Int))) ((first | exact HSc)) (first
            | (go_at_call 35; go_must (refine (sep_full HA.out x.b).mono ?_; rintro e w4 ⟨A4, k4, rfl, h4⟩; simp only [List.cons_append, List.nil_append] at h4; have HSc := And.intro (HC.out w4 (h4.cel (i := 2) rfl)).2.1 (HC.out w4 (h4.cel (i := 2) rfl)).2.2.1; have HA := Lib.hid h4; clear h4))
            | (go_at_call 36; go_must ((first | (with_reducible refine (sep_write3 HA.out HP.out.1.ok (by have := HP.out.1.pend; omega) x.n).mono ?_) | (with_reducible refine (sep_write4 HA.out HP.out.1.ok (by have := HP.out.1.pend; omega) x.n).mono ?_)); rintro e w4 ⟨rfl, h4⟩; have HSc := And.intro (HC.out w4 (h4.cel (i := 2) rfl)).2.1 (HC.out w4 (h4.cel (i := 2) rfl)).2.2.1; have HA := Lib.hid h4; clear h4))
            | (go_at_call 37; go_must ((first | (with_reducible refine (sep_rwrite3 HA.out HP.out.1.ok (by have := HP.out.1.pend; omega) x.n).mono ?_) | (with_reducible refine (sep_rwrite4 HA.out HP.out.1.ok (by have := HP.out.1.pend; omega) x.n).mono ?_)); rintro e w4 ⟨rfl, h4⟩; have HSc := And.intro (HC.out w4 (h4.cel (i := 2) rfl)).2.1 (HC.out w4 (h4.cel (i := 2) rfl)).2.2.1; have HA := Lib.hid h4; clear h4)))
          all_goals
            go_wp2_with fail
            go_meet
            case rel => exact ⟨by simp, p, q, (Dk.write d x.n (Dk.full x.b)).2, rfl, rfl, dp_write HP.out.1 x.n (Dk.full x.b), sep_two HA.out⟩
        · have hk0 : (x.kind == 0) = false := by simpa using h0
          clear h0
          by_cases h1 : x.kind = 1
          · have hk1 : (x.kind == 1) = true := by simpa using h1
            clear h1
            go_wp2_with fail
            refine (sep_sync HS.out (i := 0) rfl HP.out.1.ok (by have := HP.out.1.syncs; omega)).mono ?_
            rintro e w4 ⟨rfl, h4⟩
            have H4 := Lib.hid h4
            clear h4 c0
            go_wp2_with fail
            refine (sep_rsync H4.out (i := 1) rfl HP.out.1.ok HP.out.1.nw (by have := HP.out.1.syncs; omega) (by have := HP.out.1.pend; omega)).mono ?_
            rintro e w5 ⟨rfl, h5⟩
            have H5 := Lib.hid (And.intro h5 (dp_sync HP.out.1))
            clear h5 H4
            generalize Dk.sync d = r at *
            have hrr : ((r.1 : Int) == (r.1 : Int)) = true := by simp
            go_wp2_with fail
            go_meet
            case rel => exact ⟨by simp, p, q, r.2, rfl, rfl, H5.out.2, Sep.left (Rs' := [.cel rc 70 cs]) H5.out.1⟩
          · have hk1 : (x.kind == 1) = false := by simpa using h1
            clear h1
            by_cases h2 : x.kind = 2
            · have hk2 : (x.kind == 2) = true := by simpa using h2
              clear h2
              have c1 := (HC.out w3 (HS.out.cel (i := 2) rfl)).2.1
              go_wp2_with fail
              refine (sep_read HS.out (i := 0) rfl HP.out.1.ok x.n).mono ?_
              rintro e w4 ⟨A4, k4, rfl, hB4, _, _, hb4, _⟩
              have hS4 := HS.out.grow hb4
              have c14 := (HC.out w4 (hS4.cel (i := 2) rfl)).2.1
              have H4 := Lib.hid (And.intro hB4 hS4)
              clear hB4 hb4 hS4 c1 c0
              go_wp2_with fail
              refine (sep_rread H4.out.2 (i := 1) rfl HP.out.1.ok HP.out.1.nw (by have := HP.out.1.pend; omega) x.n).mono ?_
              rintro e w5 ⟨A5, k5, rfl, hB5, hb5⟩
              have H5 := Lib.hid (And.intro (H4.out.1.below hb5) (And.intro hB5 (H4.out.2.grow hb5)))
              clear hB5 hb5 H4 c14
              have hrl := read_len HP.out.1.ok x.n
              generalize Dk.read d x.n = r at *
              obtain ⟨r1, r2⟩ := r
              have hrr : ((r2 : Int) == (r2 : Int)) = true := by simp
              simp only at hrl
              go_wp2_with fail
              refine (same_any A4 A5 r1.length r1.length k4 k5 r1 r1 w5 H5.out.1 H5.out.2.1 (by omega) (by omega)).mono ?_
              rintro e w6 ⟨rfl, hd6⟩
              rw [decide_eq_true rfl]
              have H6 := Lib.hid (H5.out.2.2.grow hd6.below)
              clear hd6 H5
              go_wp2_with fail
              go_meet
              case rel => exact ⟨rfl, p, q, d, rfl, rfl, dp_more HP.out.1, sep_two H6.out⟩
            · have hk2 : (x.kind == 2) = false := by simpa using h2
              clear h2
              by_cases h3 : x.kind = 3
              · have hk3 : (x.kind == 3) = true := by simpa using h3
                clear h3
                have c1 := (HC.out w3 (HS.out.cel (i := 2) rfl)).2.1
                go_wp2_with fail
                refine (sep_fuse HS.out (i := 0) rfl x.n).mono ?_
                rintro e w4 ⟨rfl, h4⟩
                have c14 := (HC.out w4 (h4.cel (i := 2) rfl)).2.1
                have H4 := Lib.hid h4
                clear h4 c1 c0
                go_wp2_with fail
                refine (sep_rfuse H4.out (i := 1) rfl x.n).mono ?_
                rintro e w5 ⟨rfl, h5⟩
                have H5 := Lib.hid h5
                clear h5 H4 c14
                go_wp2_with fail
                go_meet
                case rel => exact ⟨rfl, p, q, Dk.fused d x.n, rfl, rfl, dp_fused HP.out.1 x.n HP.out.2.n.2, sep_two H5.out⟩
              · have hk3 : (x.kind == 3) = false := by simpa using h3
                clear h3
                by_cases h4 : x.kind = 4
                · have hk4 : (x.kind == 4) = true := by simpa using h4
                  clear h4
                  have hAb : Sep w ((w3.alloc (.cells #[] 5)).drew) [.dsk p d, .ref q d, .cel rc 70 cs, .cel w3.heap.size 5 #[]] := (HS.out.box 5 #[]).drew
                  have HAb := Lib.hid hAb
                  have HA := Lib.hid HS.out.drew
                  have HSc := And.intro (HC.out w3 (HS.out.cel (i := 2) rfl)).2.1 (HC.out w3 (HS.out.cel (i := 2) rfl)).2.2.2.1
                  clear hAb c0
                  go_upto_region 27 with fail
                  go_region_held3 (fun w' => w'.cell? ⟨rc, 1, none⟩ = some (.int .i64 x.n) ∧ w'.cell? ⟨rc, 3, none⟩ = some (.slice x.dA x.dn x.dc)) ((first | exact HSc | exact ⟨cell_alloc_some _ HSc.1, cell_alloc_some _ HSc.2⟩)) (first
                    | (refine step_app_bytes0 (by rfl) (.tmp 142) (.tmp 144) 22 (by rfl) 5 i0 Try.underlying22 HI.out.1 HI.out.2.1 HI.out.2.2.1 HI.out.2.2.2 w3.heap.size (by simp [Act.eval, Act.put]) (HAb.out.cel (i := 3) rfl) x.dA x.dn x.dc x.data (by simp [Act.eval, Act.put]) (HP.out.2.data.below HAb.out.1) (by omega) ?_; intro A7 k7 w7 ho7 hg7 hat7; have h7 := sep_append HAb.out ho7 hg7 hat7; have HSc := And.intro (HC.out w7 (h7.cel (i := 2) rfl)).2.1 (HC.out w7 (h7.cel (i := 2) rfl)).2.2.2.1; have HA := Lib.hid h7; clear h7 ho7 hg7 hat7)
                    | (refine step_app_bytes0 (by rfl) (.tmp 142) (.tmp 144) 22 (by rfl) 5 i0 Try.underlying22 HI.out.1 HI.out.2.1 HI.out.2.2.1 HI.out.2.2.2 w3.heap.size (by simp [Act.eval, Act.put]) (HA.out.cel (i := 3) rfl) x.dA x.dn x.dc x.data (by simp [Act.eval, Act.put]) (HP.out.2.data.below HA.out.1) (by omega) ?_; intro A7 k7 w7 ho7 hg7 hat7; have h7 := sep_append HA.out ho7 hg7 hat7; have HSc := And.intro (HC.out w7 (h7.cel (i := 2) rfl)).2.1 (HC.out w7 (h7.cel (i := 2) rfl)).2.2.2.1; have HA := Lib.hid h7; clear h7 ho7 hg7 hat7)
                    | (refine step_app_bytes0 (by rfl) (.tmp 142) (.tmp 144) 22 (by rfl) 5 i0 Try.underlying22 HI.out.1 HI.out.2.1 HI.out.2.2.1 HI.out.2.2.2 w4.heap.size (by simp [Act.eval, Act.put]) ((HA.out.box 5 #[]).cel (i := 3) rfl) x.dA x.dn x.dc x.data (by simp [Act.eval, Act.put]) (HP.out.2.data.below (HA.out.box 5 #[]).1) (by omega) ?_; intro A7 k7 w7 ho7 hg7 hat7; have h7 := sep_append (HA.out.box 5 #[]) ho7 hg7 hat7; have HSc := And.intro (HC.out w7 (h7.cel (i := 2) rfl)).2.1 (HC.out w7 (h7.cel (i := 2) rfl)).2.2.2.1; have HA := Lib.hid h7; clear h7 ho7 hg7 hat7)
                    | (go_at_call 36; go_must ((with_reducible refine (sep_write3 HA.out HP.out.1.ok (by have := HP.out.1.pend; omega) x.n).mono ?_); rintro e w4 ⟨rfl, h4⟩; have HSc := And.intro (HC.out w4 (h4.cel (i := 2) rfl)).2.1 (HC.out w4 (h4.cel (i := 2) rfl)).2.2.2.1; have HA := Lib.hid h4; clear h4))
                    | (go_at_call 37; go_must ((first | (with_reducible refine (sep_rwriteA HA.out HP.out.1.ok (by have := HP.out.1.pend; omega) x.n HP.out.2.data).mono ?_) | (with_reducible refine (sep_rwriteA HAb.out HP.out.1.ok (by have := HP.out.1.pend; omega) x.n HP.out.2.data).mono ?_)); rintro e w4 ⟨rfl, h4⟩; have HSc := And.intro (HC.out w4 (h4.cel (i := 2) rfl)).2.1 (HC.out w4 (h4.cel (i := 2) rfl)).2.2.2.1; have HA := Lib.hid h4; clear h4)))
                  all_goals
                    go_wp2_with fail
                    go_meet
                    case rel => exact ⟨by simp, p, q, (Dk.write d x.n x.data).2, rfl, rfl, dp_write HP.out.1 x.n x.data, sep_two HA.out⟩
                · have hk4 : (x.kind == 4) = false := by simpa using h4
                  clear h4
                  have hcl := HC.out w3 (HS.out.cel (i := 2) rfl)
                  have c4 := hcl.2.2.2.2.1
                  have c5 := hcl.2.2.2.2.2.1
                  have c6 := hcl.2.2.2.2.2.2
                  clear hcl
                  go_wp2_with fail
                  refine (own04_any x.kA x.kn x.kc x.keep x.torn x.cut w3 (HP.out.2.keep.below HS.out.1) (by omega)).mono ?_
                  rintro e w4 ⟨A4, k4, rfl, his, hb4⟩
                  have H4 := Lib.hid (And.intro (HS.out.grow hb4) his)
                  clear his hb4 c0 c4 c5 c6
                  go_wp2_with fail
                  refine (sep_crash H4.out.1 (i := 0) rfl HP.out.1.ok (by have := HP.out.1.pend; omega) A4 x.kn k4 x.keep x.torn x.cut H4.out.2 (by omega)).mono ?_
                  rintro e w5 ⟨y, rfl, _, h5⟩
                  have hcl := HC.out w5 (h5.cel (i := 2) rfl)
                  have c4 := hcl.2.2.2.2.1
                  have c5 := hcl.2.2.2.2.2.1
                  have c6 := hcl.2.2.2.2.2.2
                  have H5 := Lib.hid h5
                  clear h5 H4 hcl
                  go_wp2_with fail
                  refine (sep_rcrash H5.out (i := 1) rfl HP.out.1.ok (by have := HP.out.1.pend; omega) x.kA x.kn x.kc x.keep x.torn x.cut (HP.out.2.keep.below H5.out.1) (by omega)).mono ?_
                  rintro e w6 ⟨z, rfl, _, h6⟩
                  have H6 := Lib.hid h6
                  clear h6 H5 c4 c5 c6
                  go_wp2_with fail
                  go_meet
                  case rel => exact ⟨rfl, y, z, Dk.crash d x.keep x.torn x.cut, rfl, rfl, dp_crash HP.out.1 x.keep x.torn x.cut, sep_last H6.out⟩
      case rest =>
        obtain ⟨rfl, p', q', d', rfl, rfl, hdp', hS'⟩ := hcut
        clear HS HP HC c0
        obtain ⟨PA, pc, g0, g3, _, g5, g6⟩ := sep_cells hS' (i := 0) rfl
        rw [hdp'.size] at g0
        obtain ⟨sv, xs, lv, ys, F, hr⟩ := sep_rcells hS' (i := 1) rfl
        obtain ⟨LA, lc, rfl⟩ := own_slice hr.lrow
        obtain ⟨_, r1, _, r3, r4⟩ := hr.cells
        have HX := Lib.hid (And.intro hdp' (And.intro hS' (And.intro g0 (And.intro g3 (And.intro g5 g6)))))
        clear hdp' hS' hr g0 g3 g5 g6
        go_upto_region 28 with fail
        go_quiet ((first
          | (go_at_call 40; exact Calls.quiet_of_same (down_any p' d'.down _ HX.out.2.2.2.2.1))
          | (go_at_call 41; exact Calls.quiet_of_same (pending_any p' PA d'.pend.length pc _ HX.out.2.2.2.1))
          | (go_at_call 42; exact Calls.quiet_of_same (syncs_any p' d'.syncs _ HX.out.2.2.2.2.2))
          | (go_at_call 47; exact Calls.quiet_of_same (sectors_any p' N _ HX.out.2.2.1))))
        go_wp2_with fail
        go_roundg (m - (i + 1))
        case measure => omega
        case rel => exact ⟨i + 1, by omega, rfl, by go_num, p', q', d', rfl, rfl, HX.out.1, HX.out.2.1.grow ⟨rfl, rfl, rfl, Nat.le_refl _, fun _ _ => rfl⟩⟩
    · obtain rfl : i = m := by omega
      obtain ⟨M, rfl⟩ : ∃ M : Nat, N = M := ⟨N.toNat, by omega⟩
      have HX := Lib.hid (And.intro hdp hS)
      clear hdp hS
      go_wp2_with fail
      go_loopg [16] M (fun gk s16 wr => ∃ (n : Nat), n ≤ M ∧ gk = M - n ∧ s16 = .int .i64 n ∧ Sep w wr [.dsk p d, .ref q d])
      case atStart => exact ⟨0, by omega, by omega, rfl, HX.out.2⟩
      case round =>
        obtain ⟨n, hn, rfl, rfl, hS⟩ := hrel
        have HP := Lib.hid HX.out.1
        have HS := Lib.hid hS
        clear HX hS
        by_cases hlt : n < M
        · have hnm : (n : Int) < (M : Int) := by omega
          go_wp2_with fail
          refine (sep_read HS.out (i := 0) rfl HP.out.ok n).mono ?_
          rintro e w4 ⟨A4, k4, rfl, hB4, _, _, hb4, _⟩
          have H4 := Lib.hid (And.intro hB4 (HS.out.grow hb4))
          clear hB4 hb4
          go_wp2_with fail
          refine (sep_rread H4.out.2 (i := 1) rfl HP.out.ok HP.out.nw (by have := HP.out.pend; omega) n).mono ?_
          rintro e w5 ⟨A5, k5, rfl, hB5, hb5⟩
          have H5 := Lib.hid (And.intro (H4.out.1.below hb5) (And.intro hB5 (H4.out.2.grow hb5)))
          clear hB5 hb5 H4
          have hrl := read_len HP.out.ok n
          generalize Dk.read d n = r at *
          obtain ⟨r1, r2⟩ := r
          have hrr : ((r2 : Int) != (r2 : Int)) = false := by simp
          simp only at hrl
          go_wp2_with fail
          refine (same_any A4 A5 r1.length r1.length k4 k5 r1 r1 w5 H5.out.1 H5.out.2.1 (by omega) (by omega)).mono ?_
          rintro e w6 ⟨rfl, hd6⟩
          rw [decide_eq_true rfl]
          have H6 := Lib.hid (H5.out.2.2.grow hd6.below)
          clear hd6 H5
          go_wp2_with fail
          go_roundg (M - (n + 1))
          case measure => omega
          case rel => exact ⟨n + 1, by omega, rfl, by go_num, H6.out⟩
        · have hnm : ¬ (n : Int) < (M : Int) := by omega
          go_wp2_with fail
          refine (awake04_any wr).mono ?_
          rintro e w9 ⟨rfl, hb9⟩
          have H9 := Lib.hid (HS.out.1.trans (hb9.mono HS.out.1.size))
          clear hb9
          go_wp2
          go_ret
          exact ⟨rfl, H9.out⟩
set_option maxRecDepth 100000 in
set_option maxHeartbeats 4000000 in
theorem walk (N : Int) (A : Option Addr) (m cap : Nat) (l : List CallD) (w : World) (h0 : -9223372036854775808 ≤ N) (h1 : N ≤ 9223372036854775807) (hl : CS w A m l) (hmc : m ≤ cap) (hcm : cap ≤ maxLen) :
    Calls Try.prog 12 #[.int .i64 N, .slice A m cap] w fun e w' => e = .returned (.bool true) ∧ Below w.heap.size w w' := by
  cases hlo : longB l with
  | true =>
    unfold maxLen at hcm
    have HL := Lib.hid hl
    clear hl
    go_enter Try.func12, Try.ntmps12
    go_wp2_with fail
    refine (long_any A m cap l w HL.out hmc hcm).mono ?_
    rintro e w0 ⟨rfl, hw⟩
    subst hw
    rw [hlo]
    go_wp2_with fail
    refine (awake04_any w).mono ?_
    rintro e w10 ⟨rfl, hb10⟩
    go_wp2
    go_ret
    exact ⟨rfl, hb10⟩
  | false =>
    by_cases hN : 1 ≤ N ∧ N ≤ 64
    · exact walk_main N A m cap l w hN hl hmc hcm hlo
    · unfold maxLen at hcm
      have HL := Lib.hid hl
      clear hl
      by_cases hbig : 64 < N ∧ N ≤ 4096
      · obtain ⟨hb1, hb2⟩ := hbig
        have hd1 : decide (64 < N) = true := by simpa using hb1
        have hd2 : decide (N ≤ 4096) = true := by simpa using hb2
        clear hN
        go_enter Try.func12, Try.ntmps12
        go_wp2_with fail
        refine (long_any A m cap l w HL.out hmc hcm).mono ?_
        rintro e w0 ⟨rfl, hw⟩
        subst hw
        rw [hlo]
        go_wp2_with fail
        refine (awake04_any w).mono ?_
        rintro e w10 ⟨rfl, hb10⟩
        go_wp2
        go_ret
        exact ⟨rfl, hb10⟩
      · have hout : N < 1 ∨ 4096 < N := by omega
        clear hN hbig
        have hcase : decide (64 < N) = false ∨ (decide (64 < N) = true ∧ decide (N ≤ 4096) = false) := by
          by_cases h : 64 < N
          · exact .inr ⟨by simpa using h, by simp; omega⟩
          · exact .inl (by simpa using h)
        rcases hcase with hd1 | ⟨hd1, hd2⟩
        all_goals
          go_enter Try.func12, Try.ntmps12
          go_wp2_with fail
          refine (long_any A m cap l w HL.out hmc hcm).mono ?_
          rintro e w0 ⟨rfl, hw⟩
          subst hw
          rw [hlo]
          go_wp2_with fail
          refine (new_bad N hout w).mono ?_
          rintro e w1 ⟨rfl, hw⟩
          subst hw
          go_wp2_with fail
          refine (rnew_bad N hout w1).mono ?_
          rintro e w2 ⟨rfl, hw⟩
          subst hw
          go_wp2_with fail
          refine (awake04_any w1).mono ?_
          rintro e w10 ⟨rfl, hb10⟩
          go_wp2
          go_ret
          exact ⟨rfl, hb10⟩


theorem own : ownKnob Try.prog.godebug = none := by kernel_rfl
theorem laidOut : laidOutB Try.prog = true := by kernel_rfl
theorem params_ok : ∀ t ∈ Try.f12.params.toList, Try.prog.readableRec t = true ∧ t < Try.prog.types.size := by
  rw [Try.params12]
  intro t ht
  have ht' : t = 3 ∨ t = 49 := by
    simpa using ht
  rcases ht' with rfl | rfl
  · exact ⟨(show Try.prog.readableRec 3 = true by kernel_rfl), of_decide_eq_true (show decide (3 < Try.prog.types.size) = true by kernel_rfl)⟩
  · exact ⟨(show Try.prog.readableRec 49 = true by kernel_rfl), of_decide_eq_true (show decide (49 < Try.prog.types.size) = true by kernel_rfl)⟩

set_option maxRecDepth 100000 in
theorem contract (H : Type) (enc : TypeId × Value → H) (W : World) (base : Nat) (args : Array Value) (ds gs : List (DataW H)) (before : List MemPlace)
    (hval : ∀ (j : Nat) t v, Try.f12.params[j]? = some t → args[j]? = some v → Value.okWide Try.prog W .any base t v)
    (hW : DataW.Whole enc Try.prog Try.f12.params.toList Rows.diskPlaysSpec.vars false W args.toList ds gs before) :
    Calls Try.prog 12 args W fun e W' => ∃ v, e = .returned v ∧ Rows.diskPlaysSpec.post enc Try.prog Try.f12 false true false false W args v W' := by
  have hW' := hW
  obtain ⟨p, q, hA0, hV, rfl, hfz, hnd⟩ := hW
  have hA : DataW.TrodAll enc Try.prog W 0 (fun _ => true) true Try.f12.params.toList args.toList ds p := hA0
  rw [Try.params12] at hA hval
  obtain ⟨v0, vs0, d0, ds0, p0, q0, hargs, rfl, rfl, h0, r0⟩ := trodAll_cons hA
  obtain ⟨v1, vs1, d1, ds1, p1, q1, rfl, rfl, rfl, h1, r1⟩ := trodAll_cons r0
  obtain ⟨rfl, rfl, rfl⟩ := trodAll_nil r1
  obtain rfl : args = #[v0, v1] := by cases args; simp_all
  obtain ⟨rfl, rfl⟩ := trodVars_none hV
  obtain ⟨x0, rfl, rfl, rfl, w0⟩ := open_int Try.underlying3 (hval 0 3 v0 rfl rfl) h0
  have b0 := bounds_i64 w0
  obtain ⟨A1, n1, c1, l1, rfl, lh1, nc1, cm1⟩ := open_calls (hval 1 49 v1 rfl rfl) h1
  refine (walk x0 A1 n1 c1 l1 W b0.1 b0.2 lh1 nc1 cm1).mono fun e W' ⟨he, bel⟩ => ?_
  exact ⟨_, he, post_true laidOut Try.underlying4 (show Try.f12.resultTypes = #[4] from rfl) params_ok rfl hW' rfl bel⟩

theorem laid_met (os : Os) : laidMet Try.prog Rows.diskPlaysRow.laid ((World.holding Try.prog os ⟨#[], #[], []⟩).forCall (fun _ _ => 0) ⟨#[], #[.int .i64 0, .slice none 0 0], []⟩).memory :=
  laidMet_of_run' 8 (by kernel_rfl) (by kernel_rfl)
theorem reads (os : Os) {H : Type} (enc : TypeId × Value → H) : ∃ places, DataW.whole enc Try.prog ((World.holding Try.prog os ⟨#[], #[], []⟩).forCall (fun _ _ => 0) ⟨#[], #[.int .i64 0, .slice none 0 0], []⟩).memory Try.f12.params.toList Rows.diskPlaysSpec.vars false (#[Value.int .i64 0, Value.slice none 0 0] : Array Value).toList 8 = some ([.lit (.int .i64 0), .nil], [], places) :=
  ⟨[], by kernel_rfl⟩
set_option maxRecDepth 100000 in
theorem lifted (os : Os) (started : os.Started) (H : Type) (enc : TypeId × Value → H) (F : Stop.Interp) :
    ReturnsInHanded {} Try.checked os 12 .any ((OpenSpec.ofChange Rows.diskPlaysSpec).preRow enc Try.prog Try.f12 Rows.diskPlaysRow.domain false Rows.diskPlaysRow.laid) (((OpenSpec.ofChange Rows.diskPlaysSpec).at F).post enc Try.prog Try.f12 false true false false) := by
  obtain ⟨places, hx⟩ := reads os enc
  refine returnsInHanded_of_row (C := Try.checked) (s := OpenSpec.ofChange Rows.diskPlaysSpec) own started (by kernel_rfl) Try.func12
    (witness_row_at (enc := enc) (C := Try.checked) false (World.holding Try.prog os ⟨#[], #[], []⟩) #[.int .i64 0, .slice none 0 0] rfl (by kernel_rfl) (by kernel_rfl) (by kernel_rfl)
      (OpenSpec.preRow_of_cond 8 hx (by kernel_rfl) (fun k hk => by cases hk) (by kernel_rfl) (laid_met os))) ?_
  intro W base args ds gs before hval hW _ _ hsz hL _ _
  exact contract H enc W base args ds gs before hval hW
theorem said : Rows.DiskPlaysSaid :=
  OpenClaim.holds_of_cond 12 Try.f12 rfl rfl rfl rfl rfl rfl rfl ⟨rfl, rfl, rfl, rfl, rfl⟩ rfl rfl rfl rfl rfl (by kernel_rfl) Try.func12 (by kernel_rfl)
    (of_decide_eq_true (by kernel_rfl)) (by unfold Func.isWrapper; first | (rw [if_pos (by decide +kernel)]; kernel_rfl) | (rw [if_neg (by decide +kernel)]; exact ⟨rfl, rfl⟩))
    (fun os started H enc _ F => by rw [OpenClaim.pre_eq_preRow]; exact lifted os started H enc F)
#print axioms said
end Go.Proofs.Ytaooimhodoefoaa.diskPlays
