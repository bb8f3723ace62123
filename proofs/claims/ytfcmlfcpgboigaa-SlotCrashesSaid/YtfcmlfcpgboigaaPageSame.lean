/- The same page is the same, as the document says; a page of one's own. -/
import Derived.Test.YtfcmlfcpgboigaaPageMayE
import Derived.BigQuiet
import Derived.Deep.QuietTactic
namespace Go.Proofs.Ytfcmlfcpgboigaa
open Go.RowKit Mem
set_option maxRecDepth 100000
set_option linter.unusedVariables false
set_option linter.unusedSimpArgs false

set_option maxHeartbeats 4000000 in
theorem same10_eq (lsn : Int) (A B : Option Addr) (n c d : Nat) (l : List Pg.C) (w : World) (ha : ST cellK w A n l) (hb : ST cellK w B n l) (hn : n ≤ 1000000) :
    Calls Try.prog 24 #[pVal lsn A n c, pVal lsn B n d] w fun e w' => e = .returned (.bool true) ∧ Below w.heap.size w w' := by
  have hb2 : Below w.heap.size w ((w.alloc (.cells #[.int .i64 lsn, .slice A n c] 24)).alloc (.cells #[.int .i64 lsn, .slice B n d] 24)) := ((Below.refl _ _).alloc (Nat.le_refl _) _).alloc (by simp) _
  have hp := (Blk.new w 24 #[.int .i64 lsn, .slice A n c]).alloc (.cells #[.int .i64 lsn, .slice B n d] 24)
  have hq := Blk.new (w.alloc (.cells #[.int .i64 lsn, .slice A n c] 24)) 24 #[.int .i64 lsn, .slice B n d]
  simp only [World.size_alloc] at hq
  have H := Lib.hid (And.intro hb2 (And.intro hp (And.intro hq (And.intro ha hb))))
  clear hb2 hp hq ha hb
  go_enter Try.func24, Try.ntmps24
  go_wp2_with fail
  generalize (w.alloc (.cells #[.int .i64 lsn, .slice A n c] 24)).alloc (.cells #[.int .i64 lsn, .slice B n d] 24) = w1 at *
  go_loopg [5] n (fun gk s wr => ∃ k : Nat, k ≤ n ∧ gk = n - k ∧ s = .int .i64 k ∧ Below w.heap.size w wr ∧ Blk wr w.heap.size 24 #[.int .i64 lsn, .slice A n c] ∧ Blk wr (w.heap.size + 1) 24 #[.int .i64 lsn, .slice B n d])
  case atStart => exact ⟨0, by omega, by omega, rfl, H.out.1, H.out.2.1, H.out.2.2.1⟩
  case round =>
    obtain ⟨k, hk, rfl, rfl, hbw, hp, hq⟩ := hrel
    have p1 : wr.cell? ⟨w.heap.size, 1, none⟩ = some (.slice A n c) := hp.cell 1
    have q1 : wr.cell? ⟨w.heap.size + 1, 1, none⟩ = some (.slice B n d) := hq.cell 1
    by_cases hlt : k < n
    · obtain ⟨b, off, rfl, _, c0, c1, c2⟩ := cell_at (H.out.2.2.2.1.below hbw) hlt
      obtain ⟨b', off', rfl, _, e0, e1, e2⟩ := cell_at (H.out.2.2.2.2.below hbw) hlt
      generalize l.getD k Pg.C.zero = x at *
      have hkn : (k : Int) < (n : Int) := by omega
      have HB := Lib.hid (And.intro hbw (And.intro hp hq))
      clear hbw hp hq
      go_wp2
      go_quiet (fail)
      go_wp2_with fail
      go_roundg (n - (k + 1))
      case measure => omega
      case rel => exact ⟨k + 1, by omega, rfl, by go_num, below_drN HB.out.1 nq, HB.out.2.1.keep rfl, HB.out.2.2.keep rfl⟩
    · obtain rfl : k = n := by omega
      have HB := Lib.hid hbw
      clear hbw hp hq
      go_wp2_with fail
      go_ret
      exact ⟨rfl, HB.out⟩
end Go.Proofs.Ytfcmlfcpgboigaa
