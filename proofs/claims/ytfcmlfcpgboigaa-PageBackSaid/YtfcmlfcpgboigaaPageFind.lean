/- Where a key stands in a page: package page's find. -/
import Derived.Test.YtfcmlfcpgboigaaPageSet0
import Derived.Test.YtfcmlfcpgboigaaPageMayE
import Derived.BigQuiet
import Derived.Deep.QuietTactic
import Derived.Lib.Bytealg
import Derived.Laws.Externs
namespace Go.Proofs.Ytfcmlfcpgboigaa
open Go.RowKit Mem
set_option maxRecDepth 100000
set_option linter.unusedVariables false
set_option linter.unusedSimpArgs false

namespace Pg
theorem cmp_less : ∀ (a b : List UInt8), decide (0 ≤ Lib.compareBytes a b) = !Op.bytesLess a b
  | [], [] => by simp [Lib.compareBytes, Op.bytesLess]
  | [], _ :: _ => by simp [Lib.compareBytes, Op.bytesLess]
  | _ :: _, [] => by simp [Lib.compareBytes, Op.bytesLess]
  | a :: x, b :: y => by
    unfold Lib.compareBytes Op.bytesLess
    by_cases h1 : a < b
    · rw [if_pos h1]; simp [h1]
    · rw [if_neg h1]
      by_cases h2 : b < a
      · rw [if_pos h2]
        have : ¬ a = b := fun e => by subst e; exact absurd h2 h1
        simp [h1, this]
      · rw [if_neg h2]
        have hab : a = b := by
          have h3 : ¬ a.toNat < b.toNat := h1
          have h4 : ¬ b.toNat < a.toNat := h2
          exact UInt8.toNat_inj.1 (by omega)
        rw [cmp_less x y]
        simp [h1, hab]
/-- is a cell at the key, or behind it? -/
def ge (c : C) (key : ByteArray) : Bool := !Op.bytesLess c.key.toList key.toList
/-- the first such cell -/
def pos (l : List C) (key : ByteArray) : Nat := l.findIdx (fun c => ge c key)
def isAt (l : List C) (key : ByteArray) : Bool := decide (pos l key < l.length) && ((l.getD (pos l key) C.zero).key.toList == key.toList)
theorem pos_found (l : List C) (key : ByteArray) (k : Nat) (hk : k < l.length) (hn : ∀ j, j < k → ge (l.getD j C.zero) key = false) (hy : ge (l.getD k C.zero) key = true) : pos l key = k := by
  unfold pos
  rw [List.findIdx_eq hk]
  refine ⟨by simpa [List.getD_eq_getElem?_getD, List.getElem?_eq_getElem hk] using hy, fun j hj => ?_⟩
  have := hn j hj
  simpa [List.getD_eq_getElem?_getD, List.getElem?_eq_getElem (show j < l.length by omega)] using this
theorem pos_none (l : List C) (key : ByteArray) (hn : ∀ j, j < l.length → ge (l.getD j C.zero) key = false) : pos l key = l.length := by
  unfold pos
  rw [List.findIdx_eq_length]
  intro c hc
  obtain ⟨j, hj, rfl⟩ := List.getElem_of_mem hc
  have := hn j hj
  rw [List.getD_eq_getElem?_getD, List.getElem?_eq_getElem hj] at this
  exact this
end Pg
theorem cmpString_any (a b : ByteArray) (w : World) : Calls Try.prog 122 #[.string a, .string b] w fun e w' => e = .returned (.int .i64 (Lib.compareBytes a.data.toList b.data.toList)) ∧ w' = w := by
  go_enter Try.func122, Try.ntmps122
  go_wp2
  rw [run_callFunc_extern Try.func125 (by kernel_rfl) (by kernel_rfl) (by kernel_rfl) (e := Extern.BytealgCompare.compare) (by kernel_rfl), Lib.run_compareString]
  simp only [Result.andThen]
  rw [Oper.upon_value]
  go_wp2
  go_ret
  exact ⟨rfl, rfl⟩
theorem strCompare_any (a b : ByteArray) (w : World) : Calls Try.prog 118 #[.string a, .string b] w fun e w' => e = .returned (.int .i64 (Lib.compareBytes a.data.toList b.data.toList)) ∧ w' = w := by
  go_enter Try.func118, Try.ntmps118
  go_wp2_with fail
  refine (cmpString_any a b w).mono ?_
  rintro e w1 ⟨rfl, rfl⟩
  go_wp2_with fail
  go_ret
  exact ⟨rfl, rfl⟩
theorem order_any (c : Pg.C) (key : ByteArray) (w : World) : Calls Try.prog 94 #[cVal c, .string key] w fun e w' => e = .returned (.int .i64 (Lib.compareBytes c.key.data.toList key.data.toList)) ∧ Below w.heap.size w w' := by
  have hb : Below w.heap.size w (w.alloc (.cells (cCells c) 40)) := (Below.refl _ _).alloc (Nat.le_refl _) _
  have HB := Lib.hid hb
  clear hb
  go_enter Try.func94, Try.ntmps94
  go_wp2_with fail
  refine (strCompare_any _ _ _).mono ?_
  rintro e w1 ⟨rfl, rfl⟩
  go_wp2_with fail
  go_ret
  exact ⟨rfl, HB.out⟩
set_option maxHeartbeats 4000000 in
theorem find_any (lsn : Int) (A : Option Addr) (n c : Nat) (l : List Pg.C) (key : ByteArray) (w : World) (hl : ST cellK w A n l) (hn : n ≤ 1000000) :
    Calls Try.prog 56 #[pVal lsn A n c, .string key] w fun e w' => e = .returned (.tuple #[.int .i64 (Pg.pos l key : Nat), .bool (Pg.isAt l key)]) ∧ Below w.heap.size w w' := by
  have hb0 : Below w.heap.size w (w.alloc (.cells #[.int .i64 lsn, .slice A n c] 24)) := (Below.refl _ _).alloc (Nat.le_refl _) _
  have hk0 := Blk.new w 24 #[.int .i64 lsn, .slice A n c]
  have H := Lib.hid (And.intro hb0 (And.intro hk0 (And.intro hl hl.len)))
  clear hb0 hk0 hl
  go_enter Try.func56, Try.ntmps56
  go_wp2_with fail
  generalize w.alloc (.cells #[.int .i64 lsn, .slice A n c] 24) = w1 at *
  go_loopg [11] n (fun gk s11 wr => ∃ (k : Nat), k ≤ n ∧ gk = n - k ∧ s11 = .int .i64 k ∧ (∀ j, j < k → Pg.ge (l.getD j Pg.C.zero) key = false) ∧ Below w.heap.size w wr ∧ Blk wr w.heap.size 24 #[.int .i64 lsn, .slice A n c])
  case atStart => exact ⟨0, by omega, by omega, rfl, fun j hj => absurd hj (by omega), H.out.1, H.out.2.1⟩
  case round =>
    obtain ⟨k, hk, rfl, rfl, hj, hb, hbk⟩ := hrel
    by_cases hlt : k < n
    · obtain ⟨b, off, rfl, hbs, c0, c1, c2⟩ := cell_at (H.out.2.2.1.below hb) hlt
      have hfd := Pg.pos_found l key k (by rw [H.out.2.2.2]; exact hlt) hj
      have hnx : Pg.ge (l.getD k Pg.C.zero) key = false → ∀ j, j < k + 1 → Pg.ge (l.getD j Pg.C.zero) key = false := fun h j hjk => by
        rcases Nat.lt_or_ge j k with h1 | h1
        · exact hj j h1
        · obtain rfl : j = k := by omega
          exact h
      have his : Pg.ge (l.getD k Pg.C.zero) key = true → Pg.isAt l key = ((l.getD k Pg.C.zero).key.toList == key.toList) := fun h => by
        unfold Pg.isAt
        rw [hfd h, decide_eq_true (by rw [H.out.2.2.2]; exact hlt), Bool.true_and]
      generalize l.getD k Pg.C.zero = x at *
      have hcm := Pg.cmp_less x.key.data.toList key.data.toList
      have hge : Pg.ge x key = decide (0 ≤ Lib.compareBytes x.key.data.toList key.data.toList) := by rw [hcm]; unfold Pg.ge; rw [ByteArray.toList_eq, ByteArray.toList_eq]
      have hbx : Below wr.heap.size wr (wr.alloc (.cells (cCells x) 40)) := (Below.refl _ _).alloc (Nat.le_refl _) _
      have HX := Lib.hid (And.intro hfd (And.intro hnx (And.intro his (And.intro hge (And.intro (hb.trans (hbx.mono hb.size)) (And.intro (hbk.below hbx hbk.lt) hbk.lt))))))
      have hkn : (k : Int) < (n : Int) := by omega
      clear hfd hnx his hge hcm hb hbk hbx hj
      go_wp2_with fail
      refine (order_any x key _).mono ?_
      rintro e w2 ⟨rfl, hb2⟩
      have hxk : Blk w2 wr.heap.size 40 (cCells x) := (Blk.new wr _ _).below hb2 (by simp)
      have x0 : w2.cell? ⟨wr.heap.size, 0, none⟩ = some (.string x.key) := hxk.cell 0
      have H2 := Lib.hid (And.intro (HX.out.2.2.2.2.1.trans (hb2.mono HX.out.2.2.2.2.1.size)) (And.intro (HX.out.2.2.2.2.2.1.below hb2 (by have := HX.out.2.2.2.2.2.2; simp; omega)) hxk))
      clear hb2 hxk c0 c1 c2
      generalize Lib.compareBytes x.key.data.toList key.data.toList = cmp at *
      by_cases hq : 0 ≤ cmp
      · have d1 : decide (0 ≤ cmp) = true := by simpa using hq
        have HQ := Lib.hid (show Pg.ge x key = true by rw [HX.out.2.2.2.1]; exact d1)
        clear hq
        go_wp2_with fail
        go_quiet (fail)
        go_wp2_with fail
        go_ret2
        refine ⟨?_, below_drN H2.out.1 nq⟩
        rw [HX.out.1 HQ.out, HX.out.2.2.1 HQ.out]
        rfl
      · have d1 : decide (0 ≤ cmp) = false := by simpa using hq
        have HQ := Lib.hid (show Pg.ge x key = false by rw [HX.out.2.2.2.1]; exact d1)
        clear hq
        go_wp2_with fail
        go_roundg (n - (k + 1))
        case measure => omega
        case rel => exact ⟨k + 1, by omega, rfl, by go_num, HX.out.2.1 HQ.out, H2.out.1, H2.out.2.1⟩
    · obtain rfl : k = n := by omega
      have hpn := Pg.pos_none l key (fun j h => hj j (by rw [H.out.2.2.2] at h; exact h))
      have p1 : wr.cell? ⟨w.heap.size, 1, none⟩ = some (.slice A k c) := hbk.cell 1
      have hisf : Pg.isAt l key = false := by unfold Pg.isAt; rw [hpn, decide_eq_false (by omega), Bool.false_and]
      have HX := Lib.hid (And.intro hpn (And.intro hisf hb))
      clear hj hb hbk hpn hisf
      go_wp2_with fail
      go_ret2
      refine ⟨?_, HX.out.2.2⟩
      rw [HX.out.1, HX.out.2.1, H.out.2.2.2]
      rfl
end Go.Proofs.Ytfcmlfcpgboigaa
