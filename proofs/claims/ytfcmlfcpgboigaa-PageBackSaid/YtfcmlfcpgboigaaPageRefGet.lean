/- The document's Get. -/
import Derived.Test.YtfcmlfcpgboigaaPagePut
namespace Go.Proofs.Ytfcmlfcpgboigaa
open Go.RowKit Mem
set_option maxRecDepth 100000
set_option linter.unusedVariables false
set_option linter.unusedSimpArgs false

namespace Pg
theorem get_found (l : List C) (key : ByteArray) (k : Nat) (hk : k < l.length) (hn : ∀ j, j < k → ((l.getD j C.zero).key.toList == key.toList) = false) (hy : ((l.getD k C.zero).key.toList == key.toList) = true) : get l key = ((l.getD k C.zero).has, (l.getD k C.zero).data) := by
  have h := idx_found l key k hk hn hy
  have hi : idx l key = k := by
    unfold idxI at h
    split at h <;> omega
  unfold get
  rw [hi, if_pos hk]
theorem get_none (l : List C) (key : ByteArray) (hn : ∀ j, j < l.length → ((l.getD j C.zero).key.toList == key.toList) = false) : get l key = (false, ⟨#[]⟩) := by
  have h := idx_none l key hn
  have hi : ¬ idx l key < l.length := by
    unfold idxI at h
    split at h
    · omega
    · assumption
  unfold get
  rw [if_neg hi]
end Pg
set_option maxHeartbeats 4000000 in
theorem rget10_any (lsn : Int) (A : Option Addr) (n c : Nat) (l : List Pg.C) (key : ByteArray) (w : World) (hl : ST cellK w A n l) (hn : n ≤ 1000000) :
    Calls Try.prog 17 #[pVal lsn A n c, .string key] w fun e w' => e = .returned (vVal (Pg.get l key).1 (Pg.get l key).2) ∧ Below w.heap.size w w' := by
  have hb2 : Below w.heap.size w ((w.alloc (.cells #[.int .i64 lsn, .slice A n c] 24)).alloc (.cells #[.bool false, .string ⟨#[]⟩] 26)) := ((Below.refl _ _).alloc (Nat.le_refl _) _).alloc (by simp) _
  have hp := (Blk.new w 24 #[.int .i64 lsn, .slice A n c]).alloc (.cells #[.bool false, .string ⟨#[]⟩] 26)
  have hr := Blk.new (w.alloc (.cells #[.int .i64 lsn, .slice A n c] 24)) 26 #[.bool false, .string ⟨#[]⟩]
  simp only [World.size_alloc] at hr
  have H := Lib.hid (And.intro hb2 (And.intro hp (And.intro hr (And.intro hl hl.len))))
  clear hb2 hp hr hl
  go_enter Try.func17, Try.ntmps17
  go_wp2_with fail
  generalize (w.alloc (.cells #[.int .i64 lsn, .slice A n c] 24)).alloc (.cells #[.bool false, .string ⟨#[]⟩] 26) = w1 at *
  go_loopg [5] n (fun gk s5 wr => ∃ (k : Nat), k ≤ n ∧ gk = n - k ∧ s5 = .int .i64 k ∧ (∀ j, j < k → ((l.getD j Pg.C.zero).key.toList == key.toList) = false) ∧ Below w.heap.size w wr ∧ Blk wr w.heap.size 24 #[.int .i64 lsn, .slice A n c] ∧ Blk wr (w.heap.size + 1) 26 #[.bool false, .string ⟨#[]⟩])
  case atStart => exact ⟨0, by omega, by omega, rfl, fun j hj => absurd hj (by omega), H.out.1, H.out.2.1, H.out.2.2.1⟩
  case round =>
    obtain ⟨k, hk, rfl, rfl, hj, hb, hbk, hrk⟩ := hrel
    have p1 : wr.cell? ⟨w.heap.size, 1, none⟩ = some (.slice A n c) := hbk.cell 1
    have r0 : wr.cell? ⟨w.heap.size + 1, 0, none⟩ = some (.bool false) := hrk.cell 0
    have r1 : wr.cell? ⟨w.heap.size + 1, 1, none⟩ = some (.string ⟨#[]⟩) := hrk.cell 1
    have f0 := hrk.free 0
    have f1 := hrk.free 1
    by_cases hlt : k < n
    · obtain ⟨b, off, rfl, hbs, c0, c1, c2⟩ := cell_at (H.out.2.2.2.1.below hb) hlt
      have hfd := Pg.get_found l key k (by rw [H.out.2.2.2.2]; exact hlt) hj
      have hnx : ((l.getD k Pg.C.zero).key.toList == key.toList) = false → ∀ j, j < k + 1 → ((l.getD j Pg.C.zero).key.toList == key.toList) = false := fun h j hjk => by
        rcases Nat.lt_or_ge j k with h1 | h1
        · exact hj j h1
        · obtain rfl : j = k := by omega
          exact h
      generalize l.getD k Pg.C.zero = x at *
      have hkn : (k : Int) < (n : Int) := by omega
      have HX := Lib.hid (And.intro hfd (And.intro hnx (And.intro hb (And.intro hbk hrk))))
      clear hfd hnx hb hbk hrk hj
      cases hq : (x.key.toList == key.toList) with
      | true =>
        have HQ := Lib.hid hq
        go_wp2_with fail
        have hz := (HX.out.2.2.2.2.put 0 (.bool x.has)).put 1 (.string x.data)
        have z0 : ((wr.setCell ⟨w.heap.size + 1, 0, none⟩ (.bool x.has)).setCell ⟨w.heap.size + 1, 1, none⟩ (.string x.data)).cell? ⟨w.heap.size + 1, 0, none⟩ = some (.bool x.has) := hz.cell 0
        have z1 : ((wr.setCell ⟨w.heap.size + 1, 0, none⟩ (.bool x.has)).setCell ⟨w.heap.size + 1, 1, none⟩ (.string x.data)).cell? ⟨w.heap.size + 1, 1, none⟩ = some (.string x.data) := hz.cell 1
        exact bodyPost_ret (v := vVal x.has x.data) (by simp [results, Try.results17, go_sem, z0, z1]) rfl ⟨by rw [HX.out.1 HQ.out], (HX.out.2.2.1.setCell (by simp) _).setCell (by simp) _⟩
      | false =>
        have HQ := Lib.hid hq
        go_wp2_with fail
        go_roundg (n - (k + 1))
        case measure => omega
        case rel => exact ⟨k + 1, by omega, rfl, by go_num, HX.out.2.1 HQ.out, HX.out.2.2.1, HX.out.2.2.2.1, HX.out.2.2.2.2⟩
    · obtain rfl : k = n := by omega
      have HX := Lib.hid (And.intro (Pg.get_none l key (fun j h => hj j (by rw [H.out.2.2.2.2] at h; exact h))) (And.intro hb hrk))
      clear hj hb hbk hrk
      go_wp2_with fail
      have hz := (HX.out.2.2.put 0 (.bool false)).put 1 (.string ⟨#[]⟩)
      have z0 : ((wr.setCell ⟨w.heap.size + 1, 0, none⟩ (.bool false)).setCell ⟨w.heap.size + 1, 1, none⟩ (.string ⟨#[]⟩)).cell? ⟨w.heap.size + 1, 0, none⟩ = some (.bool false) := hz.cell 0
      have z1 : ((wr.setCell ⟨w.heap.size + 1, 0, none⟩ (.bool false)).setCell ⟨w.heap.size + 1, 1, none⟩ (.string ⟨#[]⟩)).cell? ⟨w.heap.size + 1, 1, none⟩ = some (.string ⟨#[]⟩) := hz.cell 1
      exact bodyPost_ret (v := vVal false ⟨#[]⟩) (by simp [results, Try.results17, go_sem, z0, z1]) rfl ⟨by rw [HX.out.1], (HX.out.2.1.setCell (by simp) _).setCell (by simp) _⟩
end Go.Proofs.Ytfcmlfcpgboigaa
