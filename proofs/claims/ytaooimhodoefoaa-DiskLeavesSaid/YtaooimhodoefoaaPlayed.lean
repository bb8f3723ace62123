/- trothlaw04.played. -/
import Derived.Test.YtaooimhodoefoaaSep
import Derived.Test.YtaooimhodoefoaaOwn04
namespace Go.Proofs.Ytaooimhodoefoaa
open Go.RowKit Mem
set_option linter.unusedVariables false
set_option linter.unusedSimpArgs false
attribute [local go_sem ↓] Go.wp_at_zero Go.wp_at_succ

namespace Dk
def playC (x : CallD) (d : D) : D := if x.kind = 0 then (write d x.n (full x.b)).2 else if x.kind = 1 then (sync d).2 else d
def playTo (l : List CallD) : Nat → D
  | 0 => new 4
  | k + 1 => playC (l.getD k .zero) (playTo l k)
structure PL (k : Nat) (d : D) : Prop where
  ok : Ok d
  nw : Nw d
  size : d.size = 4
  pend : d.pend.length ≤ k
  syncs : d.syncs ≤ k
  down : d.down = false
  fuse : d.fuse = -1
theorem pl_new : PL 0 (new 4) := ⟨new_ok 4 (by omega), nw_new 4, rfl, Nat.le_refl _, Int.le_refl _, rfl, rfl⟩
theorem pl_more {k : Nat} {d : D} (h : PL k d) : PL (k + 1) d := ⟨h.ok, h.nw, h.size, by have := h.pend; omega, by have := h.syncs; omega, h.down, h.fuse⟩
theorem pl_write {k : Nat} {d : D} (h : PL k d) (n : Int) (s : List UInt8) : PL (k + 1) (write d n s).2 := by
  have h1 := write_ok h.ok n s
  have h2 := nw_write h.nw n s
  unfold write at h1 h2 ⊢
  rw [step_on d h.down h.fuse] at h1 h2 ⊢
  by_cases ha : at_ d n ≠ 0
  · rw [if_pos ha]
    exact pl_more h
  · rw [if_neg ha] at h1 h2 ⊢
    by_cases hs : s.length ≠ 256
    · rw [if_pos hs]
      exact pl_more h
    · rw [if_neg hs, if_neg (by simp)] at h1 h2 ⊢
      exact ⟨h1, h2, h.size, by have := h.pend; simp [put]; omega, by have := h.syncs; show d.syncs ≤ _; omega, h.down, h.fuse⟩
theorem pl_sync {k : Nat} {d : D} (h : PL k d) : PL (k + 1) (sync d).2 := by
  have h1 := sync_ok h.ok
  have h2 := nw_sync h.nw
  rw [sync_on d h.down h.fuse] at h1 h2 ⊢
  exact ⟨h1, h2, h.size, by simp [synced], by have := h.syncs; show d.syncs + 1 ≤ _; omega, h.down, h.fuse⟩
theorem pl_play (l : List CallD) : ∀ k, PL k (playTo l k)
  | 0 => pl_new
  | k + 1 => by
    show PL (k + 1) (playC _ _)
    unfold playC
    split
    · exact pl_write (pl_play l k) _ _
    · split
      · exact pl_sync (pl_play l k)
      · exact pl_more (pl_play l k)
end Dk
def PlayedTo (w : World) (d : Dk.D) (e : Ending) (w' : World) : Prop := ∃ p q, e = .returned (.tuple #[.pointer (some ⟨p, 0, none⟩), .pointer (some ⟨q, 0, none⟩)]) ∧ Sep w w' [.dsk p d, .ref q d]
/-- Full, over things -/
def SepFull (w0 : World) (Rs : List Res) (b : UInt8) (e : Ending) (w' : World) : Prop := ∃ A c, e = .returned (.slice A 256 c) ∧ Sep w0 w' (Rs ++ [.byt (.slice A 256 c) 256 (Dk.full b)])
theorem sep_full {w0 w : World} {Rs : List Res} (h : Sep w0 w Rs) (b : UInt8) : Calls Try.prog 35 #[.int .u8 (b.toNat : Int)] w (SepFull w0 Rs b) := by
  refine (full_any b w).mono ?_
  rintro e w' ⟨v, rfl, hown, hb⟩
  have := h.bytes hown hb
  rw [Dk.full_length] at hown this
  obtain ⟨A, c, rfl⟩ := own_slice hown
  exact ⟨A, c, rfl, this⟩
theorem Sep.drew {w0 w : World} {Rs : List Res} (h : Sep w0 w Rs) : Sep w0 w.drew Rs := h.grow ⟨rfl, rfl, rfl, Nat.le_refl _, fun _ _ => rfl⟩
set_option maxRecDepth 100000 in
set_option maxHeartbeats 8000000 in
theorem played_any (A : Option Addr) (m cap : Nat) (l : List CallD) (w : World) (hl : CS w A m l) (hmc : m ≤ cap) (hcm : cap ≤ maxLen) (hm : m ≤ 1000) :
    Calls Try.prog 30 #[.slice A m cap] w (PlayedTo w (Dk.playTo l m)) := by
  unfold maxLen at hcm
  have HL := Lib.hid hl
  clear hl
  go_enter Try.func30, Try.ntmps30
  go_wp2_with fail
  refine (sep_new (Sep.nil (Below.refl _ w)) 4 (by omega)).mono ?_
  rintro e w1 ⟨p, rfl, h1⟩
  have H1 := Lib.hid h1
  clear h1
  go_wp2_with fail
  refine (sep_rnew H1.out 4 (by omega)).mono ?_
  rintro e w2 ⟨q, rfl, h2⟩
  have H2 := Lib.hid (show Sep w w2 [.dsk p (Dk.playTo l 0), .ref q (Dk.playTo l 0)] from h2)
  clear h2 H1
  go_wp2_with fail
  go_loopg [8] m (fun gk s8 wr => ∃ (i : Nat), i ≤ m ∧ gk = m - i ∧ s8 = .int .i64 i ∧ Sep w wr [.dsk p (Dk.playTo l i), .ref q (Dk.playTo l i)])
  case atStart => exact ⟨0, by omega, by omega, rfl, H2.out⟩
  case round =>
    obtain ⟨i, hi, rfl, rfl, hS⟩ := hrel
    clear H2
    by_cases hlt : i < m
    · obtain ⟨b, off, rfl, c0, c1, c2, _⟩ := (HL.out.below hS.1).at_ hlt
      obtain ⟨b', off', e', d0, d1, d2, _⟩ := HL.out.at_ hlt
      obtain ⟨b'', off'', e'', hbw, _⟩ := HL.out.mem (by omega)
      injection e'' with e''
      injection e'' with e1 e2 _
      subst e1 e2
      injection e' with e'
      injection e' with e1 e2 _
      subst e1 e2
      have hst : Dk.playTo l (i + 1) = Dk.playC (l.getD i .zero) (Dk.playTo l i) := rfl
      have hpl := Dk.pl_play l i
      generalize hdd : Dk.playTo l (i + 1) = dn at *
      have HDD := Lib.hid hdd
      clear hdd
      generalize Dk.playTo l i = d at *
      generalize l.getD i .zero = x at *
      have HW := Lib.hid (And.intro d1 (And.intro d2 d0))
      have HD := Lib.hid (And.intro hS (And.intro hpl hst))
      clear d0 d1 d2 hS hpl hst
      have him : (i : Int) < (m : Int) := by omega
      by_cases hk : x.kind = 0
      · have hkd : (x.kind == 0) = true := by simpa using hk
        have hdn : dn = (Dk.write d x.n (Dk.full x.b)).2 := by rw [HD.out.2.2]; unfold Dk.playC; rw [if_pos hk]
        have HDN := Lib.hid hdn
        clear hdn hk
        go_upto_region 8 with fail
        go_cut [] (fun wx => Sep w wx [.dsk p dn, .ref q d])
        case first =>
          go_region_held3 (fun w' => w'.cell? ⟨b, off + i * 7 + 1, none⟩ = some (.int .i64 x.n) ∧ w'.cell? ⟨b, off + i * 7 + 2, none⟩ = some (.int .u8 (x.b.toNat : Int))) ((first | exact HS | (refine ⟨?_, ?_⟩ <;> (simp only [World.cell?_drew]; assumption)))) (first
            | (go_at_call 35; go_must (refine (sep_full HD.out.1.drew x.b).mono ?_; rintro e w2 ⟨A2, k2, rfl, h2⟩; have HS := And.intro (cell_below h2.1 hbw HW.out.1) (cell_below h2.1 hbw HW.out.2.1); have H2 := Lib.hid h2; clear h2))
            | (go_at_call 36; go_must (refine (sep_write H2.out (i := 0) rfl HD.out.2.1.ok (by have := HD.out.2.1.pend; omega) x.n (j := 2) (A := A2) (m := 256) (cap := k2) (bs := Dk.full x.b) rfl (by omega)).mono ?_; rintro e w3 ⟨rfl, h3⟩; have HS := And.intro (cell_below h3.1 hbw HW.out.1) (cell_below h3.1 hbw HW.out.2.1); have H3 := Lib.hid h3; clear h3)))
          all_goals
            go_wp2_with fail
            go_meet
            case rel =>
              rw [HDN.out]
              exact Sep.left (Rs' := [.byt (.slice A2 256 k2) 256 (Dk.full x.b)]) H3.out
        case rest =>
          have HC := Lib.hid hcut
          have c1' := cell_below hcut.1 hbw HW.out.1
          have c2' := cell_below hcut.1 hbw HW.out.2.1
          clear hcut c0 c1 c2
          go_upto_region 9 with fail
          go_region_held3 (fun w' => w'.cell? ⟨b, off + i * 7 + 1, none⟩ = some (.int .i64 x.n) ∧ w'.cell? ⟨b, off + i * 7 + 2, none⟩ = some (.int .u8 (x.b.toNat : Int))) ((first | exact HS | (refine ⟨?_, ?_⟩ <;> (simp only [World.cell?_drew]; assumption)))) (first
            | (go_at_call 35; go_must (refine (sep_full HC.out.drew x.b).mono ?_; rintro e w2 ⟨A2, k2, rfl, h2⟩; have HS := And.intro (cell_below h2.1 hbw HW.out.1) (cell_below h2.1 hbw HW.out.2.1); have H2 := Lib.hid h2; clear h2))
            | (go_at_call 37; go_must (refine (sep_rwrite H2.out (i := 1) rfl HD.out.2.1.ok (by have := HD.out.2.1.pend; omega) x.n (j := 2) (A := A2) (m := 256) (cap := k2) (bs := Dk.full x.b) rfl (by omega)).mono ?_; rintro e w3 ⟨rfl, h3⟩; have HS := And.intro (cell_below h3.1 hbw HW.out.1) (cell_below h3.1 hbw HW.out.2.1); have H3 := Lib.hid h3; clear h3)))
          all_goals
            go_wp2_with fail
            go_roundg (m - (i + 1))
            case measure => omega
            case rel =>
              refine ⟨i + 1, by omega, rfl, by go_num, ?_⟩
              have := Sep.left (Rs := [.dsk p dn, .ref q (Dk.write d x.n (Dk.full x.b)).2]) (Rs' := [.byt (.slice A2 256 k2) 256 (Dk.full x.b)]) H3.out
              rw [← HDN.out] at this
              rw [HDD.out]
              exact this
      · have hkd : (x.kind == 0) = false := by simpa using hk
        by_cases hk1 : x.kind = 1
        · have hkd1 : (x.kind == 1) = true := by simpa using hk1
          have hdn : dn = (Dk.sync d).2 := by rw [HD.out.2.2]; unfold Dk.playC; rw [if_neg hk, if_pos hk1]
          have HDN := Lib.hid hdn
          clear hdn hk hk1
          go_wp2_with fail
          refine (sep_sync HD.out.1 (i := 0) rfl HD.out.2.1.ok (by have := HD.out.2.1.syncs; omega)).mono ?_
          rintro e w3 ⟨rfl, h3⟩
          have H3 := Lib.hid h3
          clear h3 c0 c1 c2
          go_wp2_with fail
          refine (sep_rsync H3.out (i := 1) rfl HD.out.2.1.ok HD.out.2.1.nw (by have := HD.out.2.1.syncs; omega) (by have := HD.out.2.1.pend; omega)).mono ?_
          rintro e w4 ⟨rfl, h4⟩
          have H4 := Lib.hid h4
          clear h4 H3
          go_wp2_with fail
          go_roundg (m - (i + 1))
          case measure => omega
          case rel => exact ⟨i + 1, by omega, rfl, by go_num, by have := H4.out; rw [HDD.out, HDN.out]; exact this⟩
        · have hkd1 : (x.kind == 1) = false := by simpa using hk1
          have hdn : dn = d := by rw [HD.out.2.2]; unfold Dk.playC; rw [if_neg hk, if_neg hk1]
          have HDN := Lib.hid hdn
          clear hdn hk hk1
          go_wp2_with fail
          go_roundg (m - (i + 1))
          case measure => omega
          case rel => exact ⟨i + 1, by omega, rfl, by go_num, by rw [HDD.out, HDN.out]; exact HD.out.1⟩
    · obtain rfl : i = m := by omega
      have H := Lib.hid hS
      clear hS
      go_wp2_with fail
      go_ret2
      exact ⟨p, q, rfl, H.out⟩
end Go.Proofs.Ytaooimhodoefoaa
